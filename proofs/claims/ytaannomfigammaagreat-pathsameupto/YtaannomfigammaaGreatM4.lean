/- Walks and facts of this seat's program over abstract states, printed by programs of mine; no conditions but those that each theorem names. -/
import Derived.Test.YtaannomfigammaaGreatM3
set_option linter.unusedSimpArgs false
set_option linter.unusedVariables false
set_option maxRecDepth 100000
set_option maxHeartbeats 4000000
namespace Go.Proofs.YtaannomfigammaaGreat
open Go Go.Eng
def toR (s:SC)(L:Nat):RWs:=⟨L+4,s.np,L+5,s.nt,L+6,s.nj,L+7,s.nx,fun i=>L+(3*i+9),fun _=>0⟩
def tkB (s:SC)(R:RWs)(L:Nat):Nat->Ja1
 | 0=>[]
 | i+1=>tkB s R L i++[⟨.fix,143,0,0,tC s R i⟩,⟨.grow,223,0,4,Jb0 (s.kn i) (kC s i)⟩,⟨.grow,119,0,2,tC s (toR s L) i⟩]
theorem Jj2 (s:SC)(R:RWs)(L:Nat):∀ i,(tkB s R L i).length=3*i
 | 0=>rfl
 | i+1=>by simp only [tkB,List.length_append,Jj2 s R L i,List.length_cons,List.length_nil];omega
theorem Kx3 {F:Nat->List CV}(p:CV->Bool):∀ n,(∀ k,k<n->(F k).all p=true)->(Jb0 n F).all p=true
 | 0,_=>rfl
 | n+1,h=>by
  show (Jb0 n F++F n).all p=true
  rw [List.all_append,Kx3 p n fun k hk=>h k (by omega),h n (by omega)];rfl
theorem Vo7 {m:Ja1}{s:SC}{R:RWs}(hR:ScR 138 143 285 146 150 m s R)(L:Nat):∀ n,n<=s.nt->m.length+8+3*n<=L->MWf L (tkB s R m.length n)
 | 0,_,_=>Jb1
 | n+1,h1,h2=>MWf.app (Vo7 hR L n (by omega) (by omega)) (by
  obtain ⟨k,e,hk⟩:=hR.hk n (by omega)
  have:=Ja8 hk
  refine Ja0 ?_ (Ja0 ?_ (Ja0 ?_ Jb1))
  ·simp [tC,CV.below];omega
  ·exact Jb4 _ (fun _=>rfl) _
  simp [tC,toR,CV.below];omega)
theorem Xe3 (s:SC)(R:RWs)(M n k:Nat)(L:Ja1):(tkB s R M n++L)[3*n+k]?=L[k]?:=by
 rw [List.getElem?_append_right (by rw [Jj2];omega),Jj2];congr 1;omega
theorem tkB_s (s:SC)(R:RWs)(M n:Nat)(b c:Blk)(L:Ja1):(tkB s R M n++b::L).set (3*n) c=tkB s R M n++c::L:=by
 rw [List.set_append_right _ _ (by rw [Jj2];omega),Jj2,Nat.sub_self];rfl
theorem RetP.keep {P:Program}{tm:Tm}{mem:Ja1}{L:Nat}{rs:List ResultVar}{ret:AV}{ex:Exit}(hex:ex=.normal\/ex=.ret)(hres:Jd3 P rs tm mem=some ret):RetP P rs L ret mem ex tm mem :=
 ⟨hex,ret,hres,fun ρ v w hv hm=>⟨ρ,hv,hm,fun _ _ _ _ h=>h⟩⟩
theorem Qr3 (s:SC)(R:RWs)(L:Nat):∀ {n i:Nat},i<n->(tkB s R L n)[3*i+1]?=some ⟨.grow,223,0,4,Jb0 (s.kn i) (kC s i)⟩
 | n+1,i,h=>by
  unfold tkB
  rcases Nat.lt_or_ge i n with q|q
  ·rw [List.getElem?_append_left (by rw [Jj2];omega)];exact Qr3 s R L q
  obtain rfl:i=n:=by omega
  rw [List.getElem?_append_right (by rw [Jj2];omega),Jj2]
  rw [show 3*i+1 - 3*i=1 by omega];rfl
theorem Vs9 {m:Ja1}{s:SC}{R:RWs}(hR:ScR 138 143 285 146 150 m s R)(hwf:MWf m.length m)(res:List CV)(hres:∀ L,res.all (CV.below L)=true)(a b c d n L:Nat)(hn:n<=s.nt)(hb:b<=n)(hL:m.length+8+3*n<=L):MWf L (m++(⟨.fix,32,0,0,scC s R⟩::⟨.fix,52,0,0,res⟩::⟨.fix,26,0,0,hdC s⟩::⟨.fix,52,0,0,[.int .i64 s.w,.int .i64 s.h,.int .i64 s.sm,.int .i64 s.dp,.int .i64 s.fr,.int .i64 s.sh,.int .u64 s.sd,.int .i64 (s.sk 0),.int .i64 (s.sk 1),.int .i64 (s.sk 2),.int .i64 s.ey,.int .i64 s.lk,.int .i64 s.wd,.sl (m.length+4) a 0 a,.sl (m.length+5) b 0 b,.sl (m.length+6) c 0 c,.sl (m.length+7) d 0 d]⟩::⟨.grow,140,a,5,Jb0 a (pC s)⟩::⟨.grow,119,b,2,Jb0 b (tC s (toR s m.length))⟩::⟨.grow,148,c,4,Jb0 c (jC s)⟩::⟨.grow,155,d,13,Jb0 d (xC s)⟩::tkB s R m.length n)):=by
 refine MWf.app (hwf.grow (by omega)) (Ja0 (hR.bel L (by omega)) (Ja0 (hres L) (Ja0 rfl (Ja0 ?_ (Ja0 ?_ (Ja0 ?_ (Ja0 ?_ (Ja0 ?_ (Vo7 hR L n hn hL)))))))))
 ·simp [CV.below];omega
 ·exact Jb4 _ (fun _=>rfl) _
 ·refine Kx3 _ _ fun k hk=>?_
  simp [tC,toR,CV.below];omega
 ·exact Jb4 _ (fun _=>rfl) _
 exact Jb4 _ (fun _=>rfl) _
def toB (s:SC)(R:RWs)(m:Ja1):Ja1:=⟨.fix,32,0,0,scC s R⟩::⟨.fix,52,0,0,scC s (toR s m.length)⟩::⟨.fix,26,0,0,hdC s⟩::⟨.fix,52,0,0,[.int .i64 s.w,.int .i64 s.h,.int .i64 s.sm,.int .i64 s.dp,.int .i64 s.fr,.int .i64 s.sh,.int .u64 s.sd,.int .i64 (s.sk 0),.int .i64 (s.sk 1),.int .i64 (s.sk 2),.int .i64 s.ey,.int .i64 s.lk,.int .i64 s.wd,.sl (m.length+4) (s.np) 0 (s.np),.sl (m.length+5) (s.nt) 0 (s.nt),.sl (m.length+6) (s.nj) 0 (s.nj),.sl (m.length+7) (s.nx) 0 (s.nx)]⟩::⟨.grow,140,s.np,5,Jb0 (s.np) (pC s)⟩::⟨.grow,119,s.nt,2,Jb0 (s.nt) (tC s (toR s m.length))⟩::⟨.grow,148,s.nj,4,Jb0 (s.nj) (jC s)⟩::⟨.grow,155,s.nx,13,Jb0 (s.nx) (xC s)⟩::tkB s R m.length s.nt
theorem Xe1 (s:SC)(R:RWs)(m:Ja1)(hR:ScR 138 143 285 146 150 m s R)(hS:SmR s):Ctr Tryz.prog 11 [.agg (scC s R)] m (.agg (scC s (toR s m.length))) (m++toB s R m):=by
 refine Ctr.en Tryz.func11 [.cell 2 52] 135 fun hwf Q hQ=>?_
 obtain ⟨kp,ep,hp⟩:=hR.hp
 have lp:=Ja8 hp
 obtain ⟨kt,et,ht⟩:=hR.ht
 have lt:=Ja8 ht
 obtain ⟨kj,ej,hj⟩:=hR.hj
 have lj:=Ja8 hj
 obtain ⟨kx,ex,hx⟩:=hR.hx
 have lx:=Ja8 hx
 have np:=hR.np
 have nt:=hR.nt
 have nj:=hR.nj
 have nx:=hR.nx
 have pl:(Jb0 s.np (pC s)).length=s.np*5:=Ja5 (w:=5) (F:=pC s) (fun _=>rfl) _
 have tl:(Jb0 s.nt (tC s R)).length=s.nt*2:=Ja5 (w:=2) (F:=tC s R) (fun _=>rfl) _
 have jl:(Jb0 s.nj (jC s)).length=s.nj*4:=Ja5 (w:=4) (F:=jC s) (fun _=>rfl) _
 have xl:(Jb0 s.nx (xC s)).length=s.nx*13:=Ja5 (w:=13) (F:=xC s) (fun _=>rfl) _
 have hlt0:∀ k,¬m.length+k<m.length:=fun k=>by omega
 have hbox:∀ i,pC s i=[.int .i64 (s.pk i),.int .i64 (s.pc i 0),.int .i64 (s.pc i 1),.int .i64 (s.pc i 2),.int .i64 (s.pr i)]:=fun _=>rfl
 have hbt:∀ i,tC s R i=[.int .i64 (s.tw i),.sl (R.k i) (R.vk i) 0 (s.kn i)]:=fun _=>rfl
 have hbx:∀ i,xC s i=[.int .i64 (s.xj i),.int .i64 (s.xp i),.int .i64 (s.xk i),.int .i64 (s.xv i 0 0),.int .i64 (s.xv i 0 1),.int .i64 (s.xv i 0 2),.int .i64 (s.xv i 1 0),.int .i64 (s.xv i 1 1),.int .i64 (s.xv i 1 2),.int .i64 (s.xv i 2 0),.int .i64 (s.xv i 2 1),.int .i64 (s.xv i 2 2),.int .i64 (s.xr i)]:=fun _=>rfl
 have ill:=fun l=>Ki8 l
 obtain ⟨hS1,hS2,hS3,hS4,hS5⟩:=hS
 have tkl:=Jj2 s R m.length
 have tg0:=fun n L=>Xe3 s R m.length n 0 L
 simp only [Nat.add_zero] at tg0
 have tg1:=Xe3 s R m.length
 have ts0:=tkB_s s R m.length
 have vp:=fun n=>(Jb4 CV.isVal (F:=pC s) (fun _=>rfl) n)
 have vj:=fun n=>(Jb4 CV.isVal (F:=jC s) (fun _=>rfl) n)
 have vx:=fun n=>(Jb4 CV.isVal (F:=xC s) (fun _=>rfl) n)
 have vt:=fun n=>(Jb4 CV.isVal (F:=tC s (toR s m.length)) (fun _=>rfl) n)
 have U1:=ca4 hp (Ja3 hp) ht (ca4 (Ja3 ht) hj (Ja3 hj) (ca4 hx (Ja3 hx) pl (ca4 tl jl xl (ca4 ill @Je1 @Jd8 (ca4 @Je0 @Ja6 tkl (ca4 tg0 tg1 ts0 (ca4 vp vj vx vt)))))))
 refine AW.c 2 U1 Tru ?_
 have q_1:=fun M=>Vo6 s.sk M
 simp only [c3C] at q_1
 refine AW.wd [[.val,.rd 0,.val,.rd 0,.val,.rd 0,.val,.rd 0,.val,.rd 0,.val,.rd 0,.val,.rd 0,.val,.rd 0,.ext,.val,.val,.rd 0,.val,.rd 0,.val,.rd 0,.val,.val,.fl,.wr]] 4 U1 q_1 fun K J0=>?_
 refine AW.nilCell 140 5 (m.length+3) 13 (by simp only [push_cast,simprocAttr,U1];first|done|rfl) (by intro e;cases e) rfl ?_
 try simp only [push_cast,simprocAttr,U1]
 refine AW.nilCell 119 2 (m.length+3) 14 (by simp only [push_cast,simprocAttr,U1];first|done|rfl) (by intro e;cases e) rfl ?_
 try simp only [push_cast,simprocAttr,U1]
 refine AW.nilCell 148 4 (m.length+3) 15 (by simp only [push_cast,simprocAttr,U1];first|done|rfl) (by intro e;cases e) rfl ?_
 try simp only [push_cast,simprocAttr,U1]
 refine AW.nilCell 155 13 (m.length+3) 16 (by simp only [push_cast,simprocAttr,U1];first|done|rfl) (by intro e;cases e) rfl ?_
 try simp only [push_cast,simprocAttr,U1]
 refine AW.loopK [1,2,4,42,43] (fun i=>i<=s.np) (fun i=>[(44,.one (.int .i64 (i:Int)))]) (fun i=>[(m.length+3,⟨.fix,52,0,0,[.int .i64 s.w,.int .i64 s.h,.int .i64 s.sm,.int .i64 s.dp,.int .i64 s.fr,.int .i64 s.sh,.int .u64 s.sd,.int .i64 (s.sk 0),.int .i64 (s.sk 1),.int .i64 (s.sk 2),.int .i64 s.ey,.int .i64 s.lk,.int .i64 s.wd,.sl (m.length+4) i 0 i,.sl (m.length+5) (0) 0 (0),.sl (m.length+6) (0) 0 (0),.sl (m.length+7) (0) 0 (0)]⟩),(m.length+4,⟨.grow,140,i,5,Jb0 i (pC s)⟩)]) (fun i=>s.np - i) 0 (by omega) ?_ ?_ fun i hi2=>?_
 · first|rfl|(simp only [KS,simprocAttr,Jb0,Int.natCast_zero]<;>repeat' (first|rfl|apply And.intro))
 · simp only [Ja4,push_cast,simprocAttr,Jb0]<;>rfl
 try simp only [Jb3,Ja4,push_cast,simprocAttr,U1]
 refine AW.w 2 U1 Tru fun K J1=>?_
 refine AW.cond rfl (fun h45=>?_) (fun h45=>?_)
 ·have hlt:i<s.np:=by have:=of_decide_eq_true h45;omega
  have c1:(0:Int)<=(i:Int):=by omega
  have c2:(i:Int)<(s.np:Int):=by omega
  have c3:i*5+5<=s.np*5:=by omega
  have ga:=Jb5 (w:=5) (F:=pC s) (fun _=>rfl) hlt
  have gk:=Kv5 s i
  have gli:(Jb0 i (pC s)).length=i*5:=Ja5 (w:=5) (F:=pC s) (fun _=>rfl) i
  have q1:i<=140737488355327:=by omega
  have q2:(i+1)*40<=140737488355328:=by omega
  have hap:Jb0 i (pC s)++[.int .i64 (s.pk i),.int .i64 (s.pc i 0),.int .i64 (s.pc i 1),.int .i64 (s.pc i 2),.int .i64 (s.pr i)]=Jb0 (i+1) (pC s):=rfl
  refine AW.w 4 Tru Tru fun K J1=>?_
  have U2:=ca4 U1 c1 c2 (ca4 c3 ga gk (ca4 gli q1 q2 hlt))
  refine AW.c 1 U2 Tru ?_
  have q_2:=fun M=>Vo6 (s.pc i) M
  simp only [c3C] at q_2
  refine AW.wd [[.val,.rd 0,.val,.rd 0,.val,.rd 0,.ext,.val,.rd 0,.val,.ext,.wr,.val,.wr]] 3 U2 q_2 ?_
  have hwi:IntKind.i64.wrap ((i:Int)+1)=(i:Int)+1:=wi (by omega)
  refine ⟨i+1,by omega,by omega,?_⟩
  try simp only [Jb3,Ja4,push_cast,simprocAttr,U2,hwi,hap]
  exact Weak.to (extra:=[_,_]) (by simp only [KS,simprocAttr,hwi,hap]) (by first|rfl|(simp only [List.append_assoc,List.cons_append,List.nil_append];rfl)) (by first|rfl|(simp [AV.below,CV.below];done)|(simp [AV.below,CV.below];omega)) (by exact Vs9 hR hwf _ (fun _=>rfl) _ _ _ _ 0 _ (by omega) (by omega) (by simp [Jj2];try omega))
 have hin:i=s.np:=by have:=of_decide_eq_false h45;omega
 rw [hin]
 refine AW.w 5 U1 Tru fun K J0=>?_
 refine AW.loopE0 [1,2,4,63,64] (fun i=>i<=s.nt) (fun i=>[(65,.one (.int .i64 (i:Int)))]) (fun i=>[(m.length+3,⟨.fix,52,0,0,[.int .i64 s.w,.int .i64 s.h,.int .i64 s.sm,.int .i64 s.dp,.int .i64 s.fr,.int .i64 s.sh,.int .u64 s.sd,.int .i64 (s.sk 0),.int .i64 (s.sk 1),.int .i64 (s.sk 2),.int .i64 s.ey,.int .i64 s.lk,.int .i64 s.wd,.sl (m.length+4) (s.np) 0 (s.np),.sl (m.length+5) i 0 i,.sl (m.length+6) (0) 0 (0),.sl (m.length+7) (0) 0 (0)]⟩),(m.length+5,⟨.grow,119,i,2,Jb0 i (tC s (toR s m.length))⟩)]) (fun i=>tkB s R m.length i) (fun i=>s.nt - i) 0 (by omega) ?_ ?_ ?_ fun i hi6=>?_
 · first|rfl|(simp only [KS,simprocAttr,Jb0,tkB,List.append_nil,Int.natCast_zero]<;>repeat' (first|rfl|apply And.intro))
 · simp only [Ja4,push_cast,simprocAttr,Jb0,tkB,List.append_nil]<;>rfl
 · exact fun i j _ _ h=>by simp only [Jj2];omega
 try simp only [Jb3,Ja4,push_cast,simprocAttr,U1]
 refine AW.w 2 U1 Tru fun K J1=>?_
 refine AW.cond rfl (fun h66=>?_) (fun h66=>?_)
 ·have hlt:i<s.nt:=by have:=of_decide_eq_true h66;omega
  have c1:(0:Int)<=(i:Int):=by omega
  have c2:(i:Int)<(s.nt:Int):=by omega
  have c3:i*2+2<=s.nt*2:=by omega
  have ga:=Jb5 (w:=2) (F:=tC s R) (fun _=>rfl) hlt
  obtain ⟨kk,ek,hky⟩:=hR.hk i hlt
  have lky:=Ja8 hky
  have hki:=hS1 i hlt
  have gk:=Vd6 s R i
  have gli:(Jb0 i (tC s (toR s m.length))).length=i*2:=Ja5 (w:=2) (F:=tC s (toR s m.length)) (fun _=>rfl) i
  have q1:i<=140737488355327:=by omega
  have q2:(i+1)*32<=140737488355328:=by omega
  have hap:Jb0 i (tC s (toR s m.length))++[.int .i64 (s.tw i),.sl (m.length+(3*i+9)) 0 0 (s.kn i)]=Jb0 (i+1) (tC s (toR s m.length)):=rfl
  have htk:tkB s R m.length i++[⟨.fix,143,0,0,[.int .i64 (s.tw i),.sl (R.k i) (R.vk i) 0 (s.kn i)]⟩,⟨.grow,223,0,4,Jb0 (s.kn i) (keC (s.kt i) (s.kv i))⟩,⟨.grow,119,0,2,[.int .i64 (s.tw i),.sl (m.length+(3*i+9)) 0 0 (s.kn i)]⟩]=tkB s R m.length (i+1):=rfl
  refine AW.w 4 Tru Tru fun K J1=>?_
  have U3:=ca4 U1 c1 c2 (ca4 c3 ga gk (ca4 gli q1 q2 hlt))
  refine AW.wd [[.val,.rd 0,.rd 0,.ext,.ext,.wr,.val,.wr]] 4 U3 (Xe2 (s.tw i) (R.k i) (R.vk i) (s.kn i) (s.kt i) (s.kv i) _ ⟨kk,ek,Ja3 hky _⟩ (by omega)) ?_
  have hwi:IntKind.i64.wrap ((i:Int)+1)=(i:Int)+1:=wi (by omega)
  refine ⟨i+1,by omega,by omega,?_⟩
  try simp only [Jb3,Ja4,push_cast,simprocAttr,U3,hwi,hap,htk]
  exact Weak.same (by simp only [KS,simprocAttr,hwi,hap,htk]) (by first|rfl|simp only [KS,simprocAttr,hwi,hap,htk])
 have hin:i=s.nt:=by have:=of_decide_eq_false h66;omega
 rw [hin]
 refine AW.w 5 U1 Tru fun K J0=>?_
 refine AW.loopK [1,2,4,78,79] (fun i=>i<=s.nj) (fun i=>[(80,.one (.int .i64 (i:Int)))]) (fun i=>[(m.length+3,⟨.fix,52,0,0,[.int .i64 s.w,.int .i64 s.h,.int .i64 s.sm,.int .i64 s.dp,.int .i64 s.fr,.int .i64 s.sh,.int .u64 s.sd,.int .i64 (s.sk 0),.int .i64 (s.sk 1),.int .i64 (s.sk 2),.int .i64 s.ey,.int .i64 s.lk,.int .i64 s.wd,.sl (m.length+4) (s.np) 0 (s.np),.sl (m.length+5) (s.nt) 0 (s.nt),.sl (m.length+6) i 0 i,.sl (m.length+7) (0) 0 (0)]⟩),(m.length+6,⟨.grow,148,i,4,Jb0 i (jC s)⟩)]) (fun i=>s.nj - i) 0 (by omega) ?_ ?_ fun i hi10=>?_
 · first|rfl|(simp only [KS,simprocAttr,Jb0,Int.natCast_zero]<;>repeat' (first|rfl|apply And.intro))
 · simp only [Ja4,push_cast,simprocAttr,Jb0]<;>rfl
 try simp only [Jb3,Ja4,push_cast,simprocAttr,U1]
 refine AW.w 2 U1 Tru fun K J1=>?_
 refine AW.cond rfl (fun h81=>?_) (fun h81=>?_)
 ·have hlt:i<s.nj:=by have:=of_decide_eq_true h81;omega
  have c1:(0:Int)<=(i:Int):=by omega
  have c2:(i:Int)<(s.nj:Int):=by omega
  have c3:i*4+4<=s.nj*4:=by omega
  have ga:=Jb5 (w:=4) (F:=jC s) (fun _=>rfl) hlt
  have gk:=Qy1 s i
  have gli:(Jb0 i (jC s)).length=i*4:=Ja5 (w:=4) (F:=jC s) (fun _=>rfl) i
  have q1:i<=140737488355327:=by omega
  have q2:(i+1)*32<=140737488355328:=by omega
  have hap:Jb0 i (jC s)++[.int .i64 (s.jp i),.int .i64 (s.jm i),.int .i64 (s.jt i),.int .i64 (s.js i)]=Jb0 (i+1) (jC s):=rfl
  refine AW.w 4 Tru Tru fun K J1=>?_
  have U4:=ca4 U1 c1 c2 (ca4 c3 ga gk (ca4 gli q1 q2 hlt))
  refine AW.w 4 U4 Tru ?_
  have hwi:IntKind.i64.wrap ((i:Int)+1)=(i:Int)+1:=wi (by omega)
  refine ⟨i+1,by omega,by omega,?_⟩
  try simp only [Jb3,Ja4,push_cast,simprocAttr,U4,hwi,hap]
  exact Weak.to (extra:=[_,_]) (by simp only [KS,simprocAttr,hwi,hap]) (by first|rfl|(simp only [List.append_assoc,List.cons_append,List.nil_append];rfl)) (by first|rfl|(simp [AV.below,CV.below];done)|(simp [AV.below,CV.below];omega)) (by exact Vs9 hR hwf _ (fun _=>rfl) _ _ _ _ s.nt _ (by omega) (by omega) (by simp [Jj2];try omega))
 have hin:i=s.nj:=by have:=of_decide_eq_false h81;omega
 rw [hin]
 refine AW.w 5 U1 Tru fun K J0=>?_
 refine AW.loopK [2,4,100,101] (fun i=>i<=s.nx) (fun i=>[(102,.one (.int .i64 (i:Int)))]) (fun i=>[(m.length+3,⟨.fix,52,0,0,[.int .i64 s.w,.int .i64 s.h,.int .i64 s.sm,.int .i64 s.dp,.int .i64 s.fr,.int .i64 s.sh,.int .u64 s.sd,.int .i64 (s.sk 0),.int .i64 (s.sk 1),.int .i64 (s.sk 2),.int .i64 s.ey,.int .i64 s.lk,.int .i64 s.wd,.sl (m.length+4) (s.np) 0 (s.np),.sl (m.length+5) (s.nt) 0 (s.nt),.sl (m.length+6) (s.nj) 0 (s.nj),.sl (m.length+7) i 0 i]⟩),(m.length+7,⟨.grow,155,i,13,Jb0 i (xC s)⟩)]) (fun i=>s.nx - i) 0 (by omega) ?_ ?_ fun i hi14=>?_
 · first|rfl|(simp only [KS,simprocAttr,Jb0,Int.natCast_zero]<;>repeat' (first|rfl|apply And.intro))
 · simp only [Ja4,push_cast,simprocAttr,Jb0]<;>rfl
 try simp only [Jb3,Ja4,push_cast,simprocAttr,U1]
 refine AW.w 2 U1 Tru fun K J1=>?_
 refine AW.cond rfl (fun h103=>?_) (fun h103=>?_)
 ·have hlt:i<s.nx:=by have:=of_decide_eq_true h103;omega
  have c1:(0:Int)<=(i:Int):=by omega
  have c2:(i:Int)<(s.nx:Int):=by omega
  have c3:i*13+13<=s.nx*13:=by omega
  have ga:=Jb5 (w:=13) (F:=xC s) (fun _=>rfl) hlt
  have gk:=Ka2 s i
  have gli:(Jb0 i (xC s)).length=i*13:=Ja5 (w:=13) (F:=xC s) (fun _=>rfl) i
  have q1:i<=140737488355327:=by omega
  have q2:(i+1)*104<=140737488355328:=by omega
  have hap:Jb0 i (xC s)++[.int .i64 (s.xj i),.int .i64 (s.xp i),.int .i64 (s.xk i),.int .i64 (s.xv i 0 0),.int .i64 (s.xv i 0 1),.int .i64 (s.xv i 0 2),.int .i64 (s.xv i 1 0),.int .i64 (s.xv i 1 1),.int .i64 (s.xv i 1 2),.int .i64 (s.xv i 2 0),.int .i64 (s.xv i 2 1),.int .i64 (s.xv i 2 2),.int .i64 (s.xr i)]=Jb0 (i+1) (xC s):=rfl
  refine AW.w 4 Tru Tru fun K J1=>?_
  have U5:=ca4 U1 c1 c2 (ca4 c3 ga gk (ca4 gli q1 q2 hlt))
  refine AW.c 1 U5 Tru ?_
  have q_3:=fun M=>Qc1 (s.xv i 0) M
  simp only [c3C] at q_3
  have q_4:=fun M=>Qc1 (s.xv i 1) M
  simp only [c3C] at q_4
  have q_5:=fun M=>Qc1 (s.xv i 2) M
  simp only [c3C] at q_5
  refine AW.wd [[.val,.rd 0,.val,.rd 0,.val,.rd 0,.val,.val,.rd 0,.val,.val,.rd 0,.ext,.val,.val,.rd 0,.ext,.val,.val,.rd 0,.ext,.val,.rd 0,.val,.ext,.wr,.val,.wr]] 3 U5 (ca3 q_3 q_4 q_5) ?_
  have hwi:IntKind.i64.wrap ((i:Int)+1)=(i:Int)+1:=wi (by omega)
  refine ⟨i+1,by omega,by omega,?_⟩
  try simp only [Jb3,Ja4,push_cast,simprocAttr,U5,hwi,hap]
  exact Weak.to (extra:=[_,_]) (by simp only [KS,simprocAttr,hwi,hap]) (by first|rfl|(simp only [List.append_assoc,List.cons_append,List.nil_append];rfl)) (by first|rfl|(simp [AV.below,CV.below];done)|(simp [AV.below,CV.below];omega)) (by exact Vs9 hR hwf _ (fun _=>rfl) _ _ _ _ s.nt _ (by omega) (by omega) (by simp [Jj2];try omega))
 have hin:i=s.nx:=by have:=of_decide_eq_false h103;omega
 rw [hin]
 refine AW.w 4 U1 Tru ?_
 refine hQ _ _ _ ?_
 refine RetP.keep (by first|exact Or.inr rfl|exact Or.inl rfl) ?_
 simp only [Jd3,Ja9,Jb6,AV.tv,push_cast,simprocAttr,toR]
 rfl
noncomputable def Jm8 (a:Int):Int:=if h:0<Ja2 a then ((Classical.choose (Kz5 h):Nat):Int) else 0
theorem Ku5 (a:Int)(m:Ja1):Ctr Tryz.prog 230 [.one (.int .i64 a)] m (.one (.int .i64 (Jm8 a))) m:=by
 unfold Jm8
 by_cases h:0<Ja2 a
 ·rw [dif_pos h];exact Xg2 a _ m (Classical.choose_spec (Kz5 h))
 rw [dif_neg h];exact Xg3 a m h
theorem Vv1 (a:Int)(m:Ja1):Ctr Tryz.prog 211 [.one (.int .i64 a)] m (.one (.int .i64 (Jm8 a))) m:=by
 unfold Jm8
 by_cases h:0<Ja2 a
 ·rw [dif_pos h];exact Vv2 a _ m (Classical.choose_spec (Kz5 h))
 rw [dif_neg h];exact Vv3 a m h
theorem Kv6 (a0 a1 a2:Int)(m:Ja1):Ctr Tryz.prog 109 [.one (.int .i64 a0),.one (.int .i64 a1),.one (.int .i64 a2)] m (.agg [.int .i64 a0,.int .i64 a1,.int .i64 a2]) m:=by
 exact Ctr.f Tryz.func109 [.cell 6 59] 11 Tru Tru
theorem Kf9 (f:Int->Int->Int)(g:Nat)(caps:List (Nat × Nat × Nat))(a0 a1 a2 b0 b1 b2:Int)(m:Ja1)(hf:∀ p q L,Ctr Tryz.prog g ([.one (.int .i64 p),.one (.int .i64 q)]++Ji9 caps) (m++L) (.one (.int .i64 (f p q))) (m++L)):Ctr Tryz.prog 187 [.agg [.int .i64 a0,.int .i64 a1,.int .i64 a2],.agg [.int .i64 b0,.int .i64 b1,.int .i64 b2],.one (.fn g caps)] m (.agg [.int .i64 (f a0 b0),.int .i64 (f a1 b1),.int .i64 (f a2 b2)]) m:=by
 refine Ctr.en Tryz.func187 [.cell 6 59] 26 fun hwf Q hQ=>?_
 refine AW.sr 1 fun K J0=>?_
 simp only [push_cast,simprocAttr,Ji9]
 apply J0
 refine AW.q fun K J0=>?_
 refine AW.draw [.val,.val,.rd 0,.val,.rd 0,.ext,.val,.val,.rd 0,.val,.rd 0,.ext,.val,.val,.rd 0,.val,.rd 0,.ext,.val,.wr] fol (by decide) (by kernel_rfl) ?_
 iterate 3
  simp only [push_cast,simprocAttr,Ji9]
  refine DCall.z (hf _ _ _) ?_
 simp only [push_cast,simprocAttr,Ji9]
 refine AW.w 2 Tru Tru ?_
 refine hQ _ _ _ ?_
 first|refine RetP.drop0 (Or.inr rfl) ?_ ?_ hwf|refine RetP.drop (Or.inr rfl) ?_ ?_ hwf
 · simp only [Jd3,Ja9,Jb6,AV.tv,push_cast,simprocAttr,Ji9]
 rfl
theorem Qq5 (a0 a1 a2 b0 b1 b2:Int)(m:Ja1):Ctr Tryz.prog 136 [.agg [.int .i64 a0,.int .i64 a1,.int .i64 a2],.agg [.int .i64 b0,.int .i64 b1,.int .i64 b2]] m (.agg [.int .i64 (Jd0 a0 b0),.int .i64 (Jd0 a1 b1),.int .i64 (Jd0 a2 b2)]) m:=by
 exact Ctr.f Tryz.func136 [.cell 4 59] 8 Tru (Kf9 Jd0 117 [] _ _ _ _ _ _ _ fun p q L=>Kb9 p q _)
theorem Vo3 (a0 a1 a2 b0 b1 b2:Int)(m:Ja1):Ctr Tryz.prog 107 [.agg [.int .i64 a0,.int .i64 a1,.int .i64 a2],.agg [.int .i64 b0,.int .i64 b1,.int .i64 b2]] m (.agg [.int .i64 (Jf3 a0 b0),.int .i64 (Jf3 a1 b1),.int .i64 (Jf3 a2 b2)]) m:=by
 exact Ctr.f Tryz.func107 [.cell 4 59] 8 Tru (Kf9 Jf3 116 [] _ _ _ _ _ _ _ fun p q L=>Kd5 p q _)
theorem Qt1 (a0 a1 a2 b0 b1 b2:Int)(m:Ja1):Ctr Tryz.prog 145 [.agg [.int .i64 a0,.int .i64 a1,.int .i64 a2],.agg [.int .i64 b0,.int .i64 b1,.int .i64 b2]] m (.agg [.int .i64 (Jd0 a0 b0),.int .i64 (Jd0 a1 b1),.int .i64 (Jd0 a2 b2)]) m:=by
 refine Ctr.en Tryz.func145 [.cell 4 54] 21 fun hwf Q hQ=>?_
 refine AW.w 5 Tru Tru fun K J0=>?_
 refine AW.r 4 ?_
 exact AW.fd [[.val,.val,.val,.rd 0,.val,.val,.rd 0,.ext,.val,.wr],[.val,.val,.val,.rd 0,.val,.val,.rd 0,.ext,.val,.wr],[.val,.val,.val,.rd 0,.val,.val,.rd 0,.ext,.val,.wr]] Tru Vp3
theorem Vu0 (a0 a1 a2 b0 b1 b2:Int)(m:Ja1):Ctr Tryz.prog 81 [.agg [.int .i64 a0,.int .i64 a1,.int .i64 a2],.agg [.int .i64 b0,.int .i64 b1,.int .i64 b2]] m (.agg [.int .i64 (Jf3 a0 b0),.int .i64 (Jf3 a1 b1),.int .i64 (Jf3 a2 b2)]) m:=by
 refine Ctr.en Tryz.func81 [.cell 4 54] 21 fun hwf Q hQ=>?_
 refine AW.w 5 Tru Tru fun K J0=>?_
 refine AW.r 4 ?_
 exact AW.fd [[.val,.val,.val,.rd 0,.val,.val,.rd 0,.ext,.val,.wr],[.val,.val,.val,.rd 0,.val,.val,.rd 0,.ext,.val,.wr],[.val,.val,.val,.rd 0,.val,.val,.rd 0,.ext,.val,.wr]] Tru Vp1
theorem Xd8 (a0 a1 a2:Int)(m:Ja1):Ctr Tryz.prog 261 [.agg [.int .i64 a0,.int .i64 a1,.int .i64 a2]] m (.agg [.int .i64 (Jf3 0 a0),.int .i64 (Jf3 0 a1),.int .i64 (Jf3 0 a2)]) m:=by
 exact Ctr.f Tryz.func261 [.cell 2 59] 6 Tru Vo3
theorem Qb9 (a0 a1 a2 s:Int)(m:Ja1):Ctr Tryz.prog 120 [.agg [.int .i64 a0,.int .i64 a1,.int .i64 a2],.one (.int .i64 s)] m (.agg [.int .i64 (Jd2 a0 s),.int .i64 (Jd2 a1 s),.int .i64 (Jd2 a2 s)]) m:=by
 exact Ctr.fd Tryz.func120 [.cell 4 59] 18 [[.val,.rd 0,.val,.ext,.val,.rd 0,.val,.ext,.val,.rd 0,.val,.ext,.val,.wr]] Tru Jm1
theorem Qs9 (a0 a1 a2 s:Int)(m:Ja1):Ctr Tryz.prog 146 [.agg [.int .i64 a0,.int .i64 a1,.int .i64 a2],.one (.int .i64 s)] m (.agg [.int .i64 (Jd2 a0 s),.int .i64 (Jd2 a1 s),.int .i64 (Jd2 a2 s)]) m:=by
 refine Ctr.en Tryz.func146 [.cell 4 54] 19 fun hwf Q hQ=>?_
 refine AW.w 5 Tru Tru fun K J0=>?_
 refine AW.r 4 ?_
 exact AW.f Tru Kn9
theorem Xi1 (x y t:Int)(r:Nat)(m:Ja1)(h:m[r]?=some ⟨.fix,40,0,0,[.int .i64 t]⟩):Ctr Tryz.prog 189 [.one (.int .i64 x),.one (.int .i64 y),.one (.ptr r 0 0)] m (.one (.int .i64 (Jd5 x y t))) m:=by
 have U1:=ca2 h (Ja3 h)
 exact Ctr.f Tryz.func189 [.tmp 5] 10 U1 Vq3
theorem Xd9 (a0 a1 a2 b0 b1 b2 t:Int)(m:Ja1):Ctr Tryz.prog 113 [.agg [.int .i64 a0,.int .i64 a1,.int .i64 a2],.agg [.int .i64 b0,.int .i64 b1,.int .i64 b2],.one (.int .i64 t)] m (.agg [.int .i64 (Jd5 a0 b0 t),.int .i64 (Jd5 a1 b1 t),.int .i64 (Jd5 a2 b2 t)]) m:=by
 refine Ctr.en Tryz.func113 [.cell 6 59] 11 fun hwf Q hQ=>?_
 refine AW.sr 2 fun K J0=>?_
 simp only [push_cast,simprocAttr]
 refine CThen.by (Kf9 (fun x y=>Jd5 x y t) 189 [(m.length+2,0,0)] _ _ _ _ _ _ _ fun p q L=>Xi1 p q t (m.length+2) _ (by simp only [List.append_assoc,List.cons_append,List.nil_append,push_cast,simprocAttr])) ?_
 simp only [push_cast,simprocAttr]
 exact AW.f Tru Tru
theorem Vu1 (a0 a1 a2 b0 b1 b2 t:Int)(m:Ja1):Ctr Tryz.prog 75 [.agg [.int .i64 a0,.int .i64 a1,.int .i64 a2],.agg [.int .i64 b0,.int .i64 b1,.int .i64 b2],.one (.int .i64 t)] m (.agg [.int .i64 (Jd5 a0 b0 t),.int .i64 (Jd5 a1 b1 t),.int .i64 (Jd5 a2 b2 t)]) m:=by
 refine Ctr.en Tryz.func75 [.cell 6 54] 24 fun hwf Q hQ=>?_
 refine AW.w 5 Tru Tru fun K J0=>?_
 refine AW.r 4 ?_
 exact AW.fd [[.val,.val,.val,.rd 0,.val,.val,.rd 0,.val,.ext,.val,.wr],[.val,.val,.val,.rd 0,.val,.val,.rd 0,.val,.ext,.val,.wr],[.val,.val,.val,.rd 0,.val,.val,.rd 0,.val,.ext,.val,.wr]] Tru Qu5
def Qh0 (a0 a1 a2 b0 b1 b2:Int):Int:=Jd0 (Jd0 (Jd0 0 (Jd2 a0 b0)) (Jd2 a1 b1)) (Jd2 a2 b2)
theorem Vo8 (r v:Nat)(a b c:Int)(m:Ja1)(hb:∃ k ez,m[r]?=some ⟨k,40,v,ez,[.int .i64 a,.int .i64 b,.int .i64 c]⟩):Ctr Tryz.prog 198 [.one (.sl r v 0 3)] m (.one (.int .i64 (Jd0 (Jd0 (Jd0 0 a) b) c))) m:=by
 refine Ctr.en Tryz.func198 [.tmp 2] 17 fun hwf Q hQ=>?_
 obtain ⟨k0,ez,hb⟩:=hb
 have hr:=Ja8 hb
 have U2:=ca2 hb (Ja3 hb)
 refine AW.w 5 U2 Tru fun K J0=>?_
 refine AW.r 4 ?_
 exact AW.f U2 Kb9
theorem Vq8 (a0 a1 a2 b0 b1 b2:Int):Qh0 a0 a1 a2 b0 b1 b2=(Jd0 (Jd0 (Jd0 0 (Jd2 a0 b0)) (Jd2 a1 b1)) (Jd2 a2 b2)):=rfl
theorem Vo4 (a0 a1 a2 b0 b1 b2:Int)(m:Ja1):Ctr Tryz.prog 137 [.agg [.int .i64 a0,.int .i64 a1,.int .i64 a2],.agg [.int .i64 b0,.int .i64 b1,.int .i64 b2]] m (.one (.int .i64 (Qh0 a0 a1 a2 b0 b1 b2))) m:=by
 refine Ctr.en Tryz.func137 [.tmp 4] 22 fun hwf Q hQ=>?_
 refine AW.c 1 Tru Tru ?_
 refine AW.q fun K J0=>?_
 refine AW.draw [.val,.rd 0,.val,.rd 0,.ext,.val,.rd 0,.val,.rd 0,.ext,.val,.rd 0,.val,.rd 0,.ext,.ext,.ext,.val] fol (by decide) (by kernel_rfl) ?_
 iterate 3
  simp only [push_cast,simprocAttr]
  refine DCall.z (Jm1 _ _ _) ?_
 simp only [push_cast,simprocAttr]
 refine DExt.by (by first|rfl|exact (List.append_nil _).symm|(simp only [List.append_assoc,List.cons_append,List.nil_append];rfl)) ?_
 simp only [push_cast,simprocAttr]
 refine DCall.z (Vo8 _ 0 (Jd2 a0 b0) (Jd2 a1 b1) (Jd2 a2 b2) _ ⟨.grow,1,by simp only [push_cast,simprocAttr]⟩) ?_
 simp only [push_cast,simprocAttr]
 exact AW.f Tru Tru @Vq8
theorem Vu3 (a0 a1 a2 b0 b1 b2:Int)(m:Ja1):Ctr Tryz.prog 155 [.agg [.int .i64 a0,.int .i64 a1,.int .i64 a2],.agg [.int .i64 b0,.int .i64 b1,.int .i64 b2]] m (.one (.int .i64 (Qh0 a0 a1 a2 b0 b1 b2))) m:=by
 refine Ctr.en Tryz.func155 [.tmp 4] 21 fun hwf Q hQ=>?_
 refine AW.w 5 Tru Tru fun K J0=>?_
 refine AW.r 4 ?_
 exact AW.fd [[.val,.val,.val,.rd 0,.val,.val,.rd 0,.ext,.ext,.val],[.val,.val,.val,.rd 0,.val,.val,.rd 0,.ext,.ext,.val],[.val,.val,.val,.rd 0,.val,.val,.rd 0,.ext,.ext,.val]] Tru (ca2 Kn9 Vp3) @Vq8
theorem Vd3 (a0 a1 a2 b0 b1 b2:Int)(m:Ja1):Ctr Tryz.prog 110 [.agg [.int .i64 a0,.int .i64 a1,.int .i64 a2],.agg [.int .i64 b0,.int .i64 b1,.int .i64 b2]] m (.agg [.int .i64 (Jf3 (Jd2 a1 b2) (Jd2 a2 b1)),.int .i64 (Jf3 (Jd2 a2 b0) (Jd2 a0 b2)),.int .i64 (Jf3 (Jd2 a0 b1) (Jd2 a1 b0))]) m:=by
 exact Ctr.fd Tryz.func110 [.cell 4 59] 39 [[.val,.rd 0,.val,.rd 0,.ext,.val,.rd 0,.val,.rd 0,.ext,.ext,.val,.rd 0,.val,.rd 0,.ext,.val,.rd 0,.val,.rd 0,.ext,.ext,.val,.rd 0,.val,.rd 0,.ext,.val,.rd 0,.val,.rd 0,.ext,.ext,.val,.wr]] Tru (ca2 Jm1 Kd5)
theorem Qt0 (a0 a1 a2 b0 b1 b2:Int)(m:Ja1):Ctr Tryz.prog 82 [.agg [.int .i64 a0,.int .i64 a1,.int .i64 a2],.agg [.int .i64 b0,.int .i64 b1,.int .i64 b2]] m (.agg [.int .i64 (Jf3 (Jd2 a1 b2) (Jd2 a2 b1)),.int .i64 (Jf3 (Jd2 a2 b0) (Jd2 a0 b2)),.int .i64 (Jf3 (Jd2 a0 b1) (Jd2 a1 b0))]) m:=by
 refine Ctr.en Tryz.func82 [.cell 4 54] 37 fun hwf Q hQ=>?_
 have tm1:Int.tmod 1 3=1:=rfl
 have tm2:Int.tmod 2 3=2:=rfl
 have tm3:Int.tmod 3 3=0:=rfl
 have tm4:Int.tmod 4 3=1:=rfl
 have U3:=ca4 tm1 tm2 tm3 tm4
 refine AW.w 5 U3 Tru fun K J0=>?_
 refine AW.r 4 ?_
 exact AW.fd [[.val,.val,.val,.rd 0,.val,.val,.rd 0,.ext,.val,.val,.rd 0,.val,.val,.rd 0,.ext,.ext,.val,.wr],[.val,.val,.val,.rd 0,.val,.val,.rd 0,.ext,.val,.val,.rd 0,.val,.val,.rd 0,.ext,.ext,.val,.wr],[.val,.val,.val,.rd 0,.val,.val,.rd 0,.ext,.val,.val,.rd 0,.val,.val,.rd 0,.ext,.ext,.val,.wr]] U3 (ca2 Kn9 Vp1)
theorem Xe0 (a0 a1 a2:Int)(m:Ja1):Ctr Tryz.prog 186 [.agg [.int .i64 a0,.int .i64 a1,.int .i64 a2]] m (.one (.int .i64 (Jm8 (Qh0 a0 a1 a2 a0 a1 a2)))) m:=by
 exact Ctr.f Tryz.func186 [.tmp 2] 7 Tru (ca2 Vo4 Ku5)
theorem Vu2 (a0 a1 a2:Int)(m:Ja1):Ctr Tryz.prog 165 [.agg [.int .i64 a0,.int .i64 a1,.int .i64 a2]] m (.one (.int .i64 (Jm8 (Qh0 a0 a1 a2 a0 a1 a2)))) m:=by
 exact Ctr.f Tryz.func165 [.tmp 2] 7 Tru (ca2 Vu3 Vv1)
def Qh2 (x y z a b c:Int):Int:=Jd0 (Jd0 (Jd0 0 (Jd2 x a)) (Jd2 y b)) (Jd2 z c)
theorem Ky3 (r v:Nat)(c00 c01 c02 c10 c11 c12 c20 c21 c22:Int)(m:Ja1)(hb:∃ k ez,m[r]?=some ⟨k,59,v,ez,[.int .i64 c00,.int .i64 c01,.int .i64 c02,.int .i64 c10,.int .i64 c11,.int .i64 c12,.int .i64 c20,.int .i64 c21,.int .i64 c22]⟩):Ctr Tryz.prog 119 [.one (.sl r v 0 3)] m (.agg [.int .i64 (Jd0 (Jd0 (Jd0 0 c00) c10) c20),.int .i64 (Jd0 (Jd0 (Jd0 0 c01) c11) c21),.int .i64 (Jd0 (Jd0 (Jd0 0 c02) c12) c22)]) m:=by
 refine Ctr.en Tryz.func119 [.cell 2 59] 17 fun hwf Q hQ=>?_
 obtain ⟨k0,ez,hb⟩:=hb
 have hr:=Ja8 hb
 have U4:=ca2 hb (Ja3 hb)
 refine AW.w 5 U4 Tru fun K J0=>?_
 refine AW.r 4 ?_
 exact AW.f U4 Qq5
theorem Vq9 (x y z a b c:Int):Qh2 x y z a b c=(Jd0 (Jd0 (Jd0 0 (Jd2 x a)) (Jd2 y b)) (Jd2 z c)):=rfl
theorem Vp9 (x0 x1 x2 y0 y1 y2 z0 z1 z2 t0 t1 t2 a0 a1 a2:Int)(m:Ja1):Ctr Tryz.prog 250 [.agg [.int .i64 x0,.int .i64 x1,.int .i64 x2,.int .i64 y0,.int .i64 y1,.int .i64 y2,.int .i64 z0,.int .i64 z1,.int .i64 z2,.int .i64 t0,.int .i64 t1,.int .i64 t2],.agg [.int .i64 a0,.int .i64 a1,.int .i64 a2]] m (.agg [.int .i64 (Qh2 x0 y0 z0 a0 a1 a2),.int .i64 (Qh2 x1 y1 z1 a0 a1 a2),.int .i64 (Qh2 x2 y2 z2 a0 a1 a2)]) m:=by
 refine Ctr.en Tryz.func250 [.cell 4 59] 22 fun hwf Q hQ=>?_
 refine AW.c 1 Tru Tru ?_
 refine AW.q fun K J0=>?_
 refine AW.draw [.val,.rd 0,.val,.rd 0,.ext,.val,.rd 0,.val,.rd 0,.ext,.val,.rd 0,.val,.rd 0,.ext,.ext,.ext,.wr] fol (by decide) (by kernel_rfl) ?_
 iterate 3
  simp only [push_cast,simprocAttr]
  refine DCall.z (Qb9 _ _ _ _ _) ?_
 simp only [push_cast,simprocAttr]
 refine DExt.by (by first|rfl|exact (List.append_nil _).symm|(simp only [List.append_assoc,List.cons_append,List.nil_append];rfl)) ?_
 simp only [push_cast,simprocAttr]
 refine DCall.z (Ky3 _ 0 (Jd2 x0 a0) (Jd2 x1 a0) (Jd2 x2 a0) (Jd2 y0 a1) (Jd2 y1 a1) (Jd2 y2 a1) (Jd2 z0 a2) (Jd2 z1 a2) (Jd2 z2 a2) _ ⟨.grow,3,by simp only [push_cast,simprocAttr]⟩) ?_
 simp only [push_cast,simprocAttr]
 exact AW.f Tru Tru @Vq9
theorem Vg4 (x0 x1 x2 y0 y1 y2 z0 z1 z2 t0 t1 t2 a0 a1 a2:Int)(m:Ja1):Ctr Tryz.prog 222 [.agg [.int .i64 x0,.int .i64 x1,.int .i64 x2,.int .i64 y0,.int .i64 y1,.int .i64 y2,.int .i64 z0,.int .i64 z1,.int .i64 z2,.int .i64 t0,.int .i64 t1,.int .i64 t2],.agg [.int .i64 a0,.int .i64 a1,.int .i64 a2]] m (.agg [.int .i64 (Jd0 (Qh2 x0 y0 z0 a0 a1 a2) t0),.int .i64 (Jd0 (Qh2 x1 y1 z1 a0 a1 a2) t1),.int .i64 (Jd0 (Qh2 x2 y2 z2 a0 a1 a2) t2)]) m:=by
 exact Ctr.fd Tryz.func222 [.cell 4 59] 11 [[.rd 0,.rd 0,.ext,.val,.rd 0,.ext,.wr]] Tru (ca2 (Vp9 _ _ _ _ _ _ _ _ _ _ _ _ _ _ _ _ ) Qq5)
theorem Qu4 (x0 x1 x2 y0 y1 y2 z0 z1 z2 t0 t1 t2 a0 a1 a2:Int)(m:Ja1):Ctr Tryz.prog 208 [.agg [.int .i64 x0,.int .i64 x1,.int .i64 x2,.int .i64 y0,.int .i64 y1,.int .i64 y2,.int .i64 z0,.int .i64 z1,.int .i64 z2,.int .i64 t0,.int .i64 t1,.int .i64 t2],.agg [.int .i64 a0,.int .i64 a1,.int .i64 a2]] m (.agg [.int .i64 (Qh2 x0 y0 z0 a0 a1 a2),.int .i64 (Qh2 x1 y1 z1 a0 a1 a2),.int .i64 (Qh2 x2 y2 z2 a0 a1 a2)]) m:=by
 refine Ctr.en Tryz.func208 [.cell 4 54] 22 fun hwf Q hQ=>?_
 refine AW.w 5 Tru Tru fun K J0=>?_
 refine AW.r 4 ?_
 exact AW.fd [[.rd 0,.val,.val,.val,.rd 0,.val,.val,.rd 0,.ext,.ext,.wr],[.rd 0,.val,.val,.val,.rd 0,.val,.val,.rd 0,.ext,.ext,.wr],[.rd 0,.val,.val,.val,.rd 0,.val,.val,.rd 0,.ext,.ext,.wr]] Tru (ca2 Qs9 Qt1) @Vq9
theorem Qu3 (x0 x1 x2 y0 y1 y2 z0 z1 z2 t0 t1 t2 a0 a1 a2:Int)(m:Ja1):Ctr Tryz.prog 162 [.agg [.int .i64 x0,.int .i64 x1,.int .i64 x2,.int .i64 y0,.int .i64 y1,.int .i64 y2,.int .i64 z0,.int .i64 z1,.int .i64 z2,.int .i64 t0,.int .i64 t1,.int .i64 t2],.agg [.int .i64 a0,.int .i64 a1,.int .i64 a2]] m (.agg [.int .i64 (Jd0 (Qh2 x0 y0 z0 a0 a1 a2) t0),.int .i64 (Jd0 (Qh2 x1 y1 z1 a0 a1 a2) t1),.int .i64 (Jd0 (Qh2 x2 y2 z2 a0 a1 a2) t2)]) m:=by
 exact Ctr.fd Tryz.func162 [.cell 4 54] 11 [[.rd 0,.rd 0,.ext,.val,.rd 0,.ext,.wr]] Tru (ca2 (Qu4 _ _ _ _ _ _ _ _ _ _ _ _ _ _ _ _ ) Qt1)
def Jf9 (a b:V):V:=fun k=>Jd0 (a k) (b k)
def Jb2 (a b:V):V:=fun k=>Jf3 (a k) (b k)
def Je7 (a:V)(s:Int):V:=fun k=>Jd2 (a k) s
def Kd4 (a b:V)(t:Int):V:=fun k=>Jd5 (a k) (b k) t
noncomputable def Jb9 (a:V):V:=fun k=>if Jm8 (Qh0 (a 0) (a 1) (a 2) (a 0) (a 1) (a 2))=0 then 0 else Jg9 (a k) (Jm8 (Qh0 (a 0) (a 1) (a 2) (a 0) (a 1) (a 2)))
def Jf7 (a b:V):Int:=Qh0 (a 0) (a 1) (a 2) (b 0) (b 1) (b 2)
noncomputable def Kf8 (a:V):Int:=Jm8 (Jf7 a a)
def Jd1 (a b:V):V
 | 0=>Jf3 (Jd2 (a 1) (b 2)) (Jd2 (a 2) (b 1))
 | 1=>Jf3 (Jd2 (a 2) (b 0)) (Jd2 (a 0) (b 2))
 | _+2=>Jf3 (Jd2 (a 0) (b 1)) (Jd2 (a 1) (b 0))
def Vs2 (a:V):V:=fun k=>Jf3 0 (a k)
def v3V (x y z:Int):V
 | 0=>x
 | 1=>y
 | _+2=>z
def z0V:V:=fun _=>0
abbrev MT:=Nat->Nat->Int
def mC (M:MT):List CV:=[.int .i64 (M 0 0),.int .i64 (M 0 1),.int .i64 (M 0 2),.int .i64 (M 1 0),.int .i64 (M 1 1),.int .i64 (M 1 2),.int .i64 (M 2 0),.int .i64 (M 2 1),.int .i64 (M 2 2),.int .i64 (M 3 0),.int .i64 (M 3 1),.int .i64 (M 3 2)]
def Xd5 (M:MT)(a:V):V:=fun k=>Qh2 (M 0 k) (M 1 k) (M 2 k) (a 0) (a 1) (a 2)
def Jk5 (M:MT)(a:V):V:=fun k=>Jd0 (Xd5 M a k) (M 3 k)
def Jk4 (M N:MT):MT
 | 0=>Xd5 M (N 0)
 | 1=>Xd5 M (N 1)
 | 2=>Xd5 M (N 2)
 | _+3=>Jk5 M (N 3)
def Jq3 (s:Int):MT
 | 0,0=>s
 | 1,1=>s
 | 2,2=>s
 | _,_=>0
def Kh8 (v:V):MT
 | 0,0=>65536
 | 1,1=>65536
 | 2,2=>65536
 | 3,k=>v k
 | _,_=>0
def Qq9 (a:Int):MT
 | 0,0=>65536
 | 1,1=>Qh3 a
 | 1,2=>Jy2 a
 | 2,1=>-Jy2 a
 | 2,2=>Qh3 a
 | _,_=>0
def Qq8 (a:Int):MT
 | 0,0=>Qh3 a
 | 0,2=>-Jy2 a
 | 1,1=>65536
 | 2,0=>Jy2 a
 | 2,2=>Qh3 a
 | _,_=>0
def Qq7 (a:Int):MT
 | 0,0=>Qh3 a
 | 0,1=>Jy2 a
 | 1,0=>-Jy2 a
 | 1,1=>Qh3 a
 | 2,2=>65536
 | _,_=>0
def Kd0 (A B C:MT):MT:=Jk4 (Jk4 (Jk4 (Jq3 65536) A) B) C
def Js8 (v:V):MT:=Kd0 (Qq9 (v 0)) (Qq8 (v 1)) (Qq7 (v 2))
theorem Jq7 (a:Int):IntKind.i64.wrap (-Jy2 a)=-Jy2 a:=wi (by have:=Qs2 a;omega)
theorem Qb2 (a b:V)(m:Ja1):Ctr Tryz.prog 136 [.agg (c3C a),.agg (c3C b)] m (.agg (c3C (Jf9 a b))) m:=Qq5 _ _ _ _ _ _ m
theorem Ji0 (a b:V)(m:Ja1):Ctr Tryz.prog 107 [.agg (c3C a),.agg (c3C b)] m (.agg (c3C (Jb2 a b))) m:=Vo3 _ _ _ _ _ _ m
theorem Xf8 (a b:V)(m:Ja1):Ctr Tryz.prog 81 [.agg (c3C a),.agg (c3C b)] m (.agg (c3C (Jb2 a b))) m:=Vu0 _ _ _ _ _ _ m
theorem Jj6 (a b:V)(m:Ja1):Ctr Tryz.prog 110 [.agg (c3C a),.agg (c3C b)] m (.agg (c3C (Jd1 a b))) m:=Vd3 _ _ _ _ _ _ m
theorem Qd5 (a b:V)(m:Ja1):Ctr Tryz.prog 82 [.agg (c3C a),.agg (c3C b)] m (.agg (c3C (Jd1 a b))) m:=Qt0 _ _ _ _ _ _ m
theorem Jr5 (a:V)(s:Int)(m:Ja1):Ctr Tryz.prog 120 [.agg (c3C a),.one (.int .i64 s)] m (.agg (c3C (Je7 a s))) m:=Qb9 _ _ _ _ m
theorem Ke0 (a b:V)(t:Int)(m:Ja1):Ctr Tryz.prog 113 [.agg (c3C a),.agg (c3C b),.one (.int .i64 t)] m (.agg (c3C (Kd4 a b t))) m:=Xd9 _ _ _ _ _ _ _ m
theorem Ku6 (a b:V)(t:Int)(m:Ja1):Ctr Tryz.prog 75 [.agg (c3C a),.agg (c3C b),.one (.int .i64 t)] m (.agg (c3C (Kd4 a b t))) m:=Vu1 _ _ _ _ _ _ _ m
theorem Jf2 (a b:V)(m:Ja1):Ctr Tryz.prog 137 [.agg (c3C a),.agg (c3C b)] m (.one (.int .i64 (Jf7 a b))) m:=Vo4 _ _ _ _ _ _ m
theorem Vh8 (a:V)(m:Ja1):Ctr Tryz.prog 186 [.agg (c3C a)] m (.one (.int .i64 (Kf8 a))) m:=Xe0 _ _ _ m
theorem Vp2 (a:V)(m:Ja1):Ctr Tryz.prog 165 [.agg (c3C a)] m (.one (.int .i64 (Kf8 a))) m:=Vu2 _ _ _ m
theorem neg_v (a:V)(m:Ja1):Ctr Tryz.prog 261 [.agg (c3C a)] m (.agg (c3C (Vs2 a))) m:=Xd8 _ _ _ m
theorem Xa9 (M:MT)(a:V)(m:Ja1):Ctr Tryz.prog 250 [.agg (mC (M)),.agg (c3C a)] m (.agg (c3C (Xd5 M a))) m:=Vp9 _ _ _ _ _ _ _ _ _ _ _ _ _ _ _ m
theorem Qu9 (M:MT)(a:V)(m:Ja1):Ctr Tryz.prog 208 [.agg (mC (M)),.agg (c3C a)] m (.agg (c3C (Xd5 M a))) m:=Qu4 _ _ _ _ _ _ _ _ _ _ _ _ _ _ _ m
theorem Jr6 (M:MT)(a:V)(m:Ja1):Ctr Tryz.prog 222 [.agg (mC (M)),.agg (c3C a)] m (.agg (c3C (Jk5 M a))) m:=Vg4 _ _ _ _ _ _ _ _ _ _ _ _ _ _ _ m
theorem Jy5 (M:MT)(a:V)(m:Ja1):Ctr Tryz.prog 162 [.agg (mC (M)),.agg (c3C a)] m (.agg (c3C (Jk5 M a))) m:=Qu3 _ _ _ _ _ _ _ _ _ _ _ _ _ _ _ m
theorem Vs5 (a:V)(m:Ja1)(hk:(Kf8 a ==0)=true):Ctr Tryz.prog 106 [.agg (c3C a)] m (.agg (c3C (Jb9 a))) m:=by
 refine Ctr.en Tryz.func106 [.cell 2 59] 22 fun hwf Q hQ=>?_
 have hv:Jb9 a=fun _=>0:=by
   funext k;unfold Jb9
   have:Jm8 (Qh0 (a 0) (a 1) (a 2) (a 0) (a 1) (a 2))=Kf8 a:=rfl
   rw [this,if_pos (eq_of_beq hk)]
 rw [hv] at hQ
 have U1:=ca2 @Ja6 hk
 exact AW.f U1 (Vh8 a)
theorem Ve4 (a:V)(m:Ja1)(hk:(Kf8 a ==0)=true):Ctr Tryz.prog 80 [.agg (c3C a)] m (.agg (c3C (Jb9 a))) m:=by
 refine Ctr.en Tryz.func80 [.cell 2 54] 23 fun hwf Q hQ=>?_
 have hv:Jb9 a=fun _=>0:=by
   funext k;unfold Jb9
   have:Jm8 (Qh0 (a 0) (a 1) (a 2) (a 0) (a 1) (a 2))=Kf8 a:=rfl
   rw [this,if_pos (eq_of_beq hk)]
 rw [hv] at hQ
 have U2:=ca2 @Ja6 hk
 exact AW.f U2 (Vp2 a)
theorem Vs4 (a:V)(m:Ja1)(hk:(Kf8 a ==0)=false):Ctr Tryz.prog 106 [.agg (c3C a)] m (.agg (c3C (Jb9 a))) m:=by
 refine Ctr.en Tryz.func106 [.cell 2 59] 22 fun hwf Q hQ=>?_
 have hv:Jb9 a=fun k=>Jg9 (a k) (Kf8 a):=by
   funext k;unfold Jb9
   have:Jm8 (Qh0 (a 0) (a 1) (a 2) (a 0) (a 1) (a 2))=Kf8 a:=rfl
   rw [this,if_neg (by simpa using hk)]
 rw [hv] at hQ
 have U3:=ca2 @Ja6 hk
 exact AW.fd [[.val,.rd 0,.val,.ext,.val,.rd 0,.val,.ext,.val,.rd 0,.val,.ext,.val,.wr]] U3 (ca2 (Vh8 a) Ju0)
theorem Ve3 (a:V)(m:Ja1)(hk:(Kf8 a ==0)=false):Ctr Tryz.prog 80 [.agg (c3C a)] m (.agg (c3C (Jb9 a))) m:=by
 refine Ctr.en Tryz.func80 [.cell 2 54] 23 fun hwf Q hQ=>?_
 have hv:Jb9 a=fun k=>Jg9 (a k) (Kf8 a):=by
   funext k;unfold Jb9
   have:Jm8 (Qh0 (a 0) (a 1) (a 2) (a 0) (a 1) (a 2))=Kf8 a:=rfl
   rw [this,if_neg (by simpa using hk)]
 rw [hv] at hQ
 have U4:=ca2 @Ja6 hk
 refine AW.w 11 U4 (Vp2 a) fun K J0=>?_
 refine AW.r 4 ?_
 exact AW.f U4 Qd4
theorem Jo6 (a:V)(m:Ja1):Ctr Tryz.prog 106 [.agg (c3C a)] m (.agg (c3C (Jb9 a))) m:=by
 cases hk:Kf8 a ==0
 ·exact Vs4 a m hk
 exact Vs5 a m hk
theorem Qt2 (a:V)(m:Ja1):Ctr Tryz.prog 80 [.agg (c3C a)] m (.agg (c3C (Jb9 a))) m:=by
 cases hk:Kf8 a ==0
 ·exact Ve3 a m hk
 exact Ve4 a m hk
theorem Qc5 (s:Int)(m:Ja1):Ctr Tryz.prog 218 [.one (.int .i64 s)] m (.agg (mC (Jq3 s))) m:=by
 exact Ctr.f Tryz.func218 [.cell 2 342] 10 Tru Tru
theorem Jw5 (s:Int)(m:Ja1):Ctr Tryz.prog 203 [.one (.int .i64 s)] m (.agg (mC (Jq3 s))) m:=by
 refine Ctr.en Tryz.func203 [.cell 2 288] 16 fun hwf Q hQ=>?_
 refine AW.w 5 Tru Tru fun K J0=>?_
 refine AW.r 4 ?_
 exact AW.f Tru Tru
theorem Ke1 (M:MT):mC M=([.int .i64 (M 0 0),.int .i64 (M 0 1),.int .i64 (M 0 2),.int .i64 (M 1 0),.int .i64 (M 1 1),.int .i64 (M 1 2),.int .i64 (M 2 0),.int .i64 (M 2 1),.int .i64 (M 2 2),.int .i64 (M 3 0),.int .i64 (M 3 1),.int .i64 (M 3 2)]):=rfl
theorem Kn5 (m:Ja1):Ctr Tryz.prog 248 [] m (.agg (mC (Jq3 65536))) m:=by
 exact Ctr.f Tryz.func248 [.cell 0 342] 2 @Ke1 Qc5
theorem Qx1 (v:V)(m:Ja1):Ctr Tryz.prog 216 [.agg (c3C v)] m (.agg (mC (Kh8 v))) m:=by
 have U5:=ca2 @Ke1 @Ja6
 exact Ctr.f Tryz.func216 [.cell 2 342] 8 U5 Kn5
theorem Vv6 (v:V)(m:Ja1):Ctr Tryz.prog 205 [.agg (c3C v)] m (.agg (mC (Kh8 v))) m:=by
 have U6:=ca2 @Ke1 @Ja6
 exact Ctr.f Tryz.func205 [.cell 2 288] 8 U6 Jw5
theorem Ka5 (M N:MT)(m:Ja1):Ctr Tryz.prog 219 [.agg (mC (M)),.agg (mC (N))] m (.agg (mC (Jk4 M N))) m:=by
 have U7:=ca2 @Ke1 @Ja6
 exact Ctr.fd Tryz.func219 [.cell 4 342] 22 [[.rd 0,.val,.rd 0,.ext,.rd 0,.val,.rd 0,.ext,.rd 0,.val,.rd 0,.ext,.rd 0,.val,.rd 0,.ext,.val,.wr]] U7 (ca4 (Xa9 M (N 0)) (Xa9 M (N 1)) (Xa9 M (N 2)) (Jr6 M (N 3)))
theorem Ke5 (M N:MT)(m:Ja1):Ctr Tryz.prog 207 [.agg (mC (M)),.agg (mC (N))] m (.agg (mC (Jk4 M N))) m:=by
 refine Ctr.en Tryz.func207 [.cell 4 288] 26 fun hwf Q hQ=>?_
 have U8:=ca2 @Ke1 @Ja6
 refine AW.w 5 U8 Tru fun K J0=>?_
 refine AW.r 4 ?_
 exact AW.fd [[.val,.rd 0,.val,.val,.val,.rd 0,.ext,.val,.val,.wr],[.val,.rd 0,.val,.val,.val,.rd 0,.ext,.val,.val,.wr],[.val,.rd 0,.val,.val,.val,.rd 0,.ext,.val,.val,.wr]] U8 (ca4 (Qu9 M (N 0)) (Qu9 M (N 1)) (Qu9 M (N 2)) (Jy5 M (N 3)))
theorem Ks5 (r v:Nat)(A B C:MT)(m:Ja1)(hb:∃ k ez,m[r]?=some ⟨k,342,v,ez,mC A++(mC B++mC C)⟩):Ctr Tryz.prog 215 [.one (.sl r v 0 3)] m (.agg (mC (Kd0 A B C))) m:=by
 refine Ctr.en Tryz.func215 [.cell 2 342] 18 fun hwf Q hQ=>?_
 obtain ⟨k0,ez,hb⟩:=hb
 have lb:=Ja8 hb
 have U9:=ca3 hb (Ja3 hb) @Ke1
 refine AW.w 5 U9 Kn5 fun K J0=>?_
 refine AW.r 4 ?_
 exact AW.f U9 (ca3 (Ka5 (Jq3 65536) A) (Ka5 (Jk4 (Jq3 65536) A) B) (Ka5 (Jk4 (Jk4 (Jq3 65536) A) B) C))
theorem Qd7 (r v:Nat)(A B C:MT)(m:Ja1)(hb:∃ k ez,m[r]?=some ⟨k,288,v,ez,mC A++(mC B++mC C)⟩):Ctr Tryz.prog 204 [.one (.sl r v 0 3)] m (.agg (mC (Kd0 A B C))) m:=by
 refine Ctr.en Tryz.func204 [.cell 2 288] 19 fun hwf Q hQ=>?_
 obtain ⟨k0,ez,hb⟩:=hb
 have lb:=Ja8 hb
 have U10:=ca3 hb (Ja3 hb) @Ke1
 refine AW.w 5 U10 Jw5 fun K J0=>?_
 refine AW.r 4 ?_
 exact AW.fd [[.rd 0,.val,.val,.val,.rd 0,.ext,.wr],[.rd 0,.val,.val,.val,.rd 0,.ext,.wr],[.rd 0,.val,.val,.val,.rd 0,.ext,.wr]] U10 (ca3 (Ke5 (Jq3 65536) A) (Ke5 (Jk4 (Jq3 65536) A) B) (Ke5 (Jk4 (Jk4 (Jq3 65536) A) B) C))
theorem Vs8 (a:Int)(m:Ja1):Ctr Tryz.prog 249 [.one (.int .i64 0),.one (.int .i64 a)] m (.agg (mC (Qq9 a))) m:=by
 have hw:=Jq7 a
 have U11:=ca3 @Ke1 hw @Int.zero_sub
 exact Ctr.f Tryz.func249 [.cell 4 342] 46 U11 (ca4 (Kt1 a) (Qb8 a) Kn5 Kv6)
theorem Vf7 (a:Int)(m:Ja1):Ctr Tryz.prog 245 [.one (.int .i64 0),.one (.int .i64 a)] m (.agg (mC (Qq9 a))) m:=by
 have hw:=Jq7 a
 have U12:=ca3 @Ke1 hw @Int.zero_sub
 exact Ctr.f Tryz.func245 [.cell 4 288] 53 U12 (ca3 (Kq0 a) (Ky8 a) Jw5)
theorem Vs7 (a:Int)(m:Ja1):Ctr Tryz.prog 249 [.one (.int .i64 1),.one (.int .i64 a)] m (.agg (mC (Qq8 a))) m:=by
 have hw:=Jq7 a
 have U13:=ca3 @Ke1 hw @Int.zero_sub
 exact Ctr.f Tryz.func249 [.cell 4 342] 46 U13 (ca4 (Kt1 a) (Qb8 a) Kn5 Kv6)
theorem Vf6 (a:Int)(m:Ja1):Ctr Tryz.prog 245 [.one (.int .i64 1),.one (.int .i64 a)] m (.agg (mC (Qq8 a))) m:=by
 have hw:=Jq7 a
 have U14:=ca3 @Ke1 hw @Int.zero_sub
 exact Ctr.f Tryz.func245 [.cell 4 288] 53 U14 (ca3 (Kq0 a) (Ky8 a) Jw5)
theorem Vs6 (a:Int)(m:Ja1):Ctr Tryz.prog 249 [.one (.int .i64 2),.one (.int .i64 a)] m (.agg (mC (Qq7 a))) m:=by
 have hw:=Jq7 a
 have U15:=ca3 @Ke1 hw @Int.zero_sub
 exact Ctr.f Tryz.func249 [.cell 4 342] 46 U15 (ca4 (Kt1 a) (Qb8 a) Kn5 Kv6)
theorem Vf5 (a:Int)(m:Ja1):Ctr Tryz.prog 245 [.one (.int .i64 2),.one (.int .i64 a)] m (.agg (mC (Qq7 a))) m:=by
 have hw:=Jq7 a
 have U16:=ca3 @Ke1 hw @Int.zero_sub
 exact Ctr.f Tryz.func245 [.cell 4 288] 53 U16 (ca3 (Kq0 a) (Ky8 a) Jw5)
theorem Ky4 (v:V)(m:Ja1):Ctr Tryz.prog 217 [.agg (c3C v)] m (.agg (mC (Js8 v))) m:=by
 refine Ctr.en Tryz.func217 [.cell 2 342] 14 fun hwf Q hQ=>?_
 have U17:=ca2 @Ke1 @Ja6
 refine AW.c 1 U17 Tru ?_
 refine AW.q fun K J0=>?_
 refine AW.draw [.val,.rd 0,.ext,.val,.rd 0,.ext,.val,.rd 0,.ext,.ext,.ext,.wr] fol (by decide) (by kernel_rfl) ?_
 simp only [push_cast,simprocAttr,U17]
 refine DCall.z (Vs8 _ _) ?_
 simp only [push_cast,simprocAttr,U17]
 refine DCall.z (Vs7 _ _) ?_
 simp only [push_cast,simprocAttr,U17]
 refine DCall.z (Vs6 _ _) ?_
 simp only [push_cast,simprocAttr,U17]
 refine DExt.by (by first|rfl|exact (List.append_nil _).symm|(simp only [List.append_assoc,List.cons_append,List.nil_append];rfl)) ?_
 simp only [push_cast,simprocAttr,U17]
 refine DCall.z (Ks5 (m.length+2) 0 (Qq9 (v 0)) (Qq8 (v 1)) (Qq7 (v 2)) _ ⟨.grow,12,by rw [Jf1];rfl⟩) ?_
 simp only [push_cast,simprocAttr,U17]
 exact AW.f Tru Tru
theorem Vf4 (v:V)(m:Ja1):Ctr Tryz.prog 206 [.agg (c3C v)] m (.agg (mC (Js8 v))) m:=by
 refine Ctr.en Tryz.func206 [.cell 2 288] 14 fun hwf Q hQ=>?_
 have U18:=ca2 @Ke1 @Ja6
 refine AW.c 1 U18 Tru ?_
 refine AW.q fun K J0=>?_
 refine AW.draw [.val,.rd 0,.ext,.val,.rd 0,.ext,.val,.rd 0,.ext,.ext,.ext,.wr] fol (by decide) (by kernel_rfl) ?_
 simp only [push_cast,simprocAttr,U18]
 refine DCall.z (Vf7 _ _) ?_
 simp only [push_cast,simprocAttr,U18]
 refine DCall.z (Vf6 _ _) ?_
 simp only [push_cast,simprocAttr,U18]
 refine DCall.z (Vf5 _ _) ?_
 simp only [push_cast,simprocAttr,U18]
 refine DExt.by (by first|rfl|exact (List.append_nil _).symm|(simp only [List.append_assoc,List.cons_append,List.nil_append];rfl)) ?_
 simp only [push_cast,simprocAttr,U18]
 refine DCall.z (Qd7 (m.length+2) 0 (Qq9 (v 0)) (Qq8 (v 1)) (Qq7 (v 2)) _ ⟨.grow,12,by rw [Jf1];rfl⟩) ?_
 simp only [push_cast,simprocAttr,U18]
 exact AW.f Tru Tru
def plZ (T:Nat->Int)(x:Int):Nat->Int
 | 0=>-1
 | n+1=>if T n<=x then (n:Int) else plZ T x n
def Ky1 (a x:Int):Int:=if a<x then -1 else if x<a then 1 else 0
def loN (T:Nat->Int)(x:Int)(n:Nat):Nat:=fbN (fun k=>decide (T k<x)) n
theorem Vw4 (T:Nat->Int)(x:Int):∀ n,-1<=plZ T x n/\plZ T x n<(n:Int)
 | 0=>by show -1<=-1/\(-1:Int)<0;omega
 | n+1=>by have:=Vw4 T x n;unfold plZ;split<;>omega
theorem Kr8 {f:Nat->Bool}:∀ n,fbN f n<n->f (fbN f n)=false/\∀ k,k<fbN f n->f k=true
 | 0,h=>by unfold fbN at h;omega
 | n+1,h=>by
  unfold fbN at h ⊢
  split
  ·rename_i q;exact Kr8 n q
  rename_i q
  rw [if_neg q] at h
  split at h
  ·omega
  rename_i h1
  rw [if_neg h1]
  have:=Qg7 (f:=f) n (by have:=Kc7 f n;omega)
  exact ⟨by simpa using h1,this⟩
theorem Xi5 {T:Nat->Int}{x:Int}{n k:Nat}(h:k<loN T x n):T k<x:=by
 unfold loN at h
 have hl:=Kc7 (fun k=>decide (T k<x)) n
 rcases Nat.lt_or_ge (fbN (fun k=>decide (T k<x)) n) n with q|q
 ·exact of_decide_eq_true ((Kr8 n q).2 k h)
 exact of_decide_eq_true (Qg7 (f:=fun k=>decide (T k<x)) n (by omega) k (by omega))
theorem lo_at {T:Nat->Int}{x:Int}{n:Nat}(h:loN T x n<n):x<=T (loN T x n):=by
 have:=of_decide_eq_false (Kr8 (f:=fun k=>decide (T k<x)) n h).1
 unfold loN;omega
def Rise (T:Nat->Int)(n:Nat):Prop:=∀ i j,i<j->j<n->T i<T j
theorem Vp4 {T:Nat->Int}{x:Int}{n:Nat}(hr:Rise T n):plZ T x n=if loN T x n<n/\T (loN T x n)=x then (loN T x n:Int) else (loN T x n:Int) - 1:=by
 obtain ⟨a,ha⟩:∃ a,a=loN T x n:=⟨_,rfl⟩
 have hal:a<=n:=by rw [ha];exact Kc7 _ _
 have h1:∀ k,k<a->T k<x:=fun k hk=>Xi5 (n:=n) (by omega)
 have h2:a<n->x<=T a:=fun h=>by rw [ha] at h ⊢;exact lo_at h
 rw [<-ha]
 have key:∀ m,m<=n->plZ T x m=if m<=a then (m:Int) - 1 else if T a=x then (a:Int) else (a:Int) - 1:=by
  intro m
  induction m with
  | zero=>intro _;rw [if_pos (Nat.zero_le _)];rfl
  | succ m ih =>
   intro hm
   have ih:=ih (by omega)
   unfold plZ
   rcases Nat.lt_trichotomy m a with q|q|q
   ·rw [if_pos (by have:=h1 m q;omega),if_pos (by omega)];omega
   ·subst q
    rw [if_neg (by omega:¬m+1<=m)]
    rw [if_pos (Nat.le_refl _)] at ih
    by_cases e:T m=x
    ·rw [if_pos (by omega),if_pos e]
    have:=h2 (by omega)
    rw [if_neg (by omega),if_neg e];exact ih
   have h3:=hr a m q (by omega)
   have:=h2 (by omega)
   rw [if_neg (by omega),if_neg (by omega)]
   rw [if_neg (by omega)] at ih;exact ih
 rw [key n (Nat.le_refl _)]
 by_cases h:n<=a
 ·rw [if_pos h,if_neg (by omega)];omega
 rw [if_neg h]
 by_cases e:T a=x
 ·rw [if_pos e,if_pos ⟨by omega,e⟩]
 rw [if_neg e,if_neg (fun q=>e q.2)]
theorem Ke8 {w:Int}{n:Nat}{T:Nat->Int}{W:Nat->Nat->Int}(h:TrR w n T W):Rise T n:=by
 intro i j hij hj
 induction j with
 | zero=>omega
 | succ j ih =>
  have h1:=(h.2.2.2.2 (j+1) hj).2.2.1 (by omega)
  rw [Nat.add_sub_cancel] at h1
  rcases Nat.lt_or_ge i j with q|q
  ·have:=ih q (by omega);omega
  have:i=j:=by omega
  subst this;exact h1
def Qo0 (t:Int):Int:=Jd2 (Jd2 (Jb8 t) (Jb8 t)) (196608 - 2*Jb8 t)
def Km7 (T:Nat->Int)(x:Int)(a:Nat):Int:=Jg9 (IntKind.i64.wrap (x - T a)) (IntKind.i64.wrap (T (a+1) - T a))
def trV (w:Int)(n:Nat)(T:Nat->Int)(W:Nat->Nat->Int)(x:Int):V :=
 if plZ T x n<0 then W 0 else if plZ T x n=(n:Int) - 1\/w=0 then W (plZ T x n).toNat else
  Kd4 (W (plZ T x n).toNat) (W ((plZ T x n).toNat+1)) (if w=2 then Qo0 (Km7 T x (plZ T x n).toNat) else Km7 T x (plZ T x n).toNat)
theorem Qz9 (t:Int):Qo0 t=(Jd2 (Jd2 (Jb8 t) (Jb8 t)) (196608 - 2*Jb8 t)):=rfl
theorem Xk3 (t:Int)(m:Ja1):Ctr Tryz.prog 257 [.one (.int .i64 t)] m (.one (.int .i64 (Qo0 t))) m:=by
 have hu:=Jv6 t
 have w1:IntKind.i64.wrap (2*Jb8 t)=2*Jb8 t:=wi (by omega)
 have w2:IntKind.i64.wrap (196608 - 2*Jb8 t)=196608 - 2*Jb8 t:=wi (by omega)
 have w3:Jf3 196608 (2*Jb8 t)=196608 - 2*Jb8 t:=by unfold Jf3;rw [Jc1 (n:=196608) (by decide),Jc1 (n:=2*Jb8 t) (by omega),Jc1 (by omega)]
 have U1:=ca2 w1 w3
 exact Ctr.f Tryz.func257 [.tmp 2] 12 U1 (ca3 Kg0 Jm1 Kd5) @Qz9
theorem Vv7 (t:Int)(m:Ja1):Ctr Tryz.prog 210 [.one (.int .i64 t)] m (.one (.int .i64 (Qo0 t))) m:=by
 have hu:=Jv6 t
 have w1:IntKind.i64.wrap (2*Jb8 t)=2*Jb8 t:=wi (by omega)
 have w2:IntKind.i64.wrap (196608 - 2*Jb8 t)=196608 - 2*Jb8 t:=wi (by omega)
 have w3:Jf3 196608 (2*Jb8 t)=196608 - 2*Jb8 t:=by unfold Jf3;rw [Jc1 (n:=196608) (by decide),Jc1 (n:=2*Jb8 t) (by omega),Jc1 (by omega)]
 have U2:=ca2 w1 w2
 exact Ctr.f Tryz.func210 [.tmp 2] 13 U2 (ca2 Qt3 Kn9) @Qz9
theorem Xm1 (T:Nat->Int)(W:Nat->Nat->Int)(j:Nat)(x:Int)(m:Ja1):Ctr Tryz.prog 269 [.agg (keC T W j),.one (.int .i64 x)] m (.one (.int .i64 (Ky1 (T j) x))) m:=by
 refine Ctr.en Tryz.func269 [.tmp 4] 15 fun hwf Q hQ=>?_
 have gk:=Jo8 T W j
 refine AW.w 4 gk Tru fun K J0=>?_
 refine AW.cond rfl (fun h5=>?_) (fun h5=>?_)
 ·have hr:Ky1 (T j) x=-1:=by have:=of_decide_eq_true h5;unfold Ky1;rw [if_pos this]
  exact AW.f gk Tru hr
 refine AW.c 1 gk Tru ?_
 refine AW.cond rfl (fun h10=>?_) (fun h10=>?_)
 ·have hr:Ky1 (T j) x=1:=by have h0:=of_decide_eq_false h5;have:=of_decide_eq_true h10;unfold Ky1;rw [if_neg h0,if_pos this]
  exact AW.f gk Tru hr
 have hr:Ky1 (T j) x=0:=by have h0:=of_decide_eq_false h5;have:=of_decide_eq_false h10;unfold Ky1;rw [if_neg h0,if_neg this]
 exact AW.f gk Tru hr
theorem Xn3 (r v n:Nat)(T:Nat->Int)(W:Nat->Nat->Int)(x:Int)(m:Ja1)(hr:∃ k e,m[r]?=some ⟨k,223,v,e,Jb0 n (keC T W)⟩)(hn:n<=1000000)(hT:Rise T n):Ctr Tryz.prog 268 [.one (.sl r v 0 n),.one (.int .i64 x),.one (.fn 269 [])] m (.tup [(false,[.int .i64 ((loN T x n:Nat):Int)]),(false,[.bool (decide (loN T x n<n)&&(Ky1 (T (loN T x n)) x ==0))])]) m:=by
 refine Ctr.en Tryz.func268 [.tmp 6,.tmp 7] 49 fun hwf Q hQ=>?_
 obtain ⟨kr,er,hr⟩:=hr
 have lr:=Ja8 hr
 have gl:(Jb0 n (keC T W)).length=n*4:=Ja5 (w:=4) (F:=keC T W) (fun _=>rfl) n
 have pw:(2:Int) ^ min 1 IntKind.u64.bits=2:=by decide
 have U3:=ca4 hr (Ja3 hr) gl pw
 refine AW.w 5 U3 Tru fun K J0=>?_
 refine AW.loopK [0,1,2,8] (fun q=>q.1<=q.2/\q.2<=n/\(∀ k,k<q.1->T k<x)/\(q.2<n->x<=T q.2)) (fun q=>[(9,.one (.int .i64 ((q.1:Nat):Int))),(10,.one (.int .i64 ((q.2:Nat):Int)))]) (fun q=>[]) (fun q=>q.2 - q.1) ((0,n):Nat × Nat) ⟨Nat.zero_le _,Nat.le_refl _,fun k h=>by omega,fun h=>by omega⟩ ?_ ?_ fun q hi2=>?_
 · first|rfl|(simp only [KS,simprocAttr,Int.natCast_zero]<;>repeat' (first|rfl|apply And.intro))
 · first|rfl|(simp only [Ja4,push_cast,simprocAttr,U3,Int.natCast_zero]<;>rfl)
 obtain ⟨i,j⟩:=q
 obtain ⟨h1,h2,h3,h4⟩:=hi2
 dsimp only at h1 h2 h3 h4 ⊢
 try simp only [Jb3,Ja4,push_cast,simprocAttr,U3]
 refine AW.w 2 U3 Tru fun K J1=>?_
 refine AW.cond rfl (fun h17=>?_) (fun h17=>?_)
 ·have hij:i<j:=by have:=of_decide_eq_true h17;omega
  obtain ⟨z,hz⟩:∃ z,z=(i+j) / 2:=⟨_,rfl⟩
  have hz1:i<=z:=by omega
  have hz2:z<j:=by omega
  have hzn:z<n:=by omega
  have u1:IntKind.i64.wrap ((i:Int)+(j:Int))=((i+j:Nat):Int):=by rw [wi (by omega)];push_cast;rfl
  have u2:IntKind.u64.wrap ((i+j:Nat):Int)=((i+j:Nat):Int):=by simp [IntKind.wrap,IntKind.signed,IntKind.bits];omega
  have u3:((i+j:Nat):Int).fdiv 2=(z:Int):=by rw [Int.fdiv_eq_ediv_of_nonneg _ (by decide),hz];omega
  have u4:IntKind.i64.wrap (z:Int)=(z:Int):=wi (by omega)
  have u5:IntKind.u64.wrap (z:Int)=(z:Int):=by simp [IntKind.wrap,IntKind.signed,IntKind.bits];omega
  have u6:IntKind.i64.wrap ((z:Int)+1)=((z+1:Nat):Int):=by rw [wi (by omega)];push_cast;rfl
  have u7:((i+j:Nat):Int)=(i:Int)+(j:Int):=by push_cast;rfl
  rw [u7] at u1 u2 u3
  have c1:(0:Int)<=(z:Int):=by omega
  have c2:(z:Int)<(n:Int):=by omega
  have c3:z*4+4<=n*4:=by omega
  have ga:=Jb5 (w:=4) (F:=keC T W) (fun _=>rfl) hzn
  have gk:=Jo8 T W z
  refine AW.w 3 Tru Tru ?_
  have U4:=ca4 U3 u1 u2 (ca4 u3 u4 u5 (ca4 u6 c1 c2 (ca4 c3 ga gk hzn)))
  refine AW.c 2 U4 (Xm1 T W z x) ?_
  refine AW.cond rfl (fun h31=>?_) (fun h31=>?_)
  ·have hlt:T z<x:=by have:=of_decide_eq_true h31;unfold Ky1 at this;(repeat' split at this)<;>omega
   obtain ⟨nx,hnx0⟩:∃ nx:Nat × Nat,nx=(z+1,j):=⟨_,rfl⟩
   have hnx:nx.1=z+1/\nx.2=j:=by rw [hnx0];exact ⟨rfl,rfl⟩
   have hnI:nx.1<=nx.2/\nx.2<=n/\(∀ k,k<nx.1->T k<x)/\(nx.2<n->x<=T nx.2):=by
     rw [hnx0];refine ⟨by show z+1<=j;omega,h2,fun k hk=>?_,h4⟩
     have hk2:k<z+1:=hk
     rcases Nat.lt_or_ge k z with q|q
     · have:=hT k z q hzn;omega
     have:k=z:=by omega
     rw [this];exact hlt
   have hnm:nx.2 - nx.1<j - i:=by rw [hnx0];show j - (z+1)<j - i;omega
   refine AW.w 1 U4 Tru ?_
   exact Wk nx U4 hnx (hI:=hnI) (hm:=hnm)
  have hge:x<=T z:=by have:=of_decide_eq_false h31;unfold Ky1 at this;(repeat' split at this)<;>omega
  obtain ⟨nx,hnx0⟩:∃ nx:Nat × Nat,nx=(i,z):=⟨_,rfl⟩
  have hnx:nx.1=i/\nx.2=z:=by rw [hnx0];exact ⟨rfl,rfl⟩
  have hnI:nx.1<=nx.2/\nx.2<=n/\(∀ k,k<nx.1->T k<x)/\(nx.2<n->x<=T nx.2):=by
    rw [hnx0];exact ⟨hz1,by show z<=n;omega,h3,fun _=>hge⟩
  have hnm:nx.2 - nx.1<j - i:=by rw [hnx0];show z - i<j - i;omega
  refine AW.w 1 U4 Tru ?_
  exact Wk nx U4 hnx (hI:=hnI) (hm:=hnm)
 have hij:i=j:=by have:=of_decide_eq_false h17;omega
 subst hij
 have hlo:loN T x n=i:=by
   rcases Nat.lt_or_ge i n with q|q
   · exact Kj1 (fun k hk=>decide_eq_true (h3 k hk)) (decide_eq_false (by have:=h4 q;omega)) n q
   have e:i=n:=by omega
   subst e;exact Jx2 i fun k hk=>decide_eq_true (h3 k hk)
 rw [hlo] at hQ
 refine AW.w 2 Tru Tru ?_
 refine AW.q fun K J0=>?_
 rcases Nat.lt_or_ge i n with hin|hin
 ·have p1:(i:Int)<(n:Int):=by omega
  have c1:(0:Int)<=(i:Int):=by omega
  have c3:i*4+4<=n*4:=by omega
  have ga:=Jb5 (w:=4) (F:=keC T W) (fun _=>rfl) hin
  have gk:=Jo8 T W i
  rw [decide_eq_true hin,Bool.true_and] at hQ
  have U5:=ca4 U3 p1 c1 (ca4 c3 ga gk hin)
  exact AW.f U5 (Xm1 T W i x)
 have p1:¬(i:Int)<(n:Int):=by omega
 rw [decide_eq_false (by omega:¬i<n),Bool.false_and] at hQ
 have U6:=ca2 U3 p1
 exact AW.f U6 Tru
theorem Xh3 (w:Int)(r v n:Nat)(T:Nat->Int)(W:Nat->Nat->Int)(x:Int)(m:Ja1)(hr:∃ k e,m[r]?=some ⟨k,223,v,e,Jb0 n (keC T W)⟩)(hR:TrR w n T W)(hk:(decide (loN T x n<n)&&(Ky1 (T (loN T x n)) x ==0))=true):Ctr Tryz.prog 256 [.agg [.int .i64 w,.sl r v 0 n],.one (.int .i64 x)] m (.one (.int .i64 (plZ T x n))) m:=by
 refine Ctr.en Tryz.func256 [.tmp 4] 18 fun hwf Q hQ=>?_
 obtain ⟨kr,er,hr⟩:=hr
 have lr:=Ja8 hr
 have gl:(Jb0 n (keC T W)).length=n*4:=Ja5 (w:=4) (F:=keC T W) (fun _=>rfl) n
 have hn16:=hR.2.2.2.1
 have hn1:=hR.2.2.1
 have hp:plZ T x n=(loN T x n:Int):=by
   rw [Vp4 (Ke8 hR)]
   simp only [Bool.and_eq_true,decide_eq_true_eq,beq_iff_eq] at hk
   rw [if_pos ⟨hk.1,by have:=hk.2;unfold Ky1 at this;(repeat' split at this)<;>omega⟩]
 have hln:loN T x n<=n:=Kc7 _ _
 have hw:IntKind.i64.wrap ((loN T x n:Int) - 1)=(loN T x n:Int) - 1:=wi (by omega)
 rw [hp] at hQ
 have U1:=ca4 hr (Ja3 hr) gl (ca2 hk hw)
 exact AW.f U1 (Xn3 r v n T W x _ ⟨kr,er,Ja3 hr _⟩ (by omega) (Ke8 hR))
theorem Xh2 (w:Int)(r v n:Nat)(T:Nat->Int)(W:Nat->Nat->Int)(x:Int)(m:Ja1)(hr:∃ k e,m[r]?=some ⟨k,223,v,e,Jb0 n (keC T W)⟩)(hR:TrR w n T W)(hk:(decide (loN T x n<n)&&(Ky1 (T (loN T x n)) x ==0))=false):Ctr Tryz.prog 256 [.agg [.int .i64 w,.sl r v 0 n],.one (.int .i64 x)] m (.one (.int .i64 (plZ T x n))) m:=by
 refine Ctr.en Tryz.func256 [.tmp 4] 18 fun hwf Q hQ=>?_
 obtain ⟨kr,er,hr⟩:=hr
 have lr:=Ja8 hr
 have gl:(Jb0 n (keC T W)).length=n*4:=Ja5 (w:=4) (F:=keC T W) (fun _=>rfl) n
 have hn16:=hR.2.2.2.1
 have hn1:=hR.2.2.1
 have hp:plZ T x n=(loN T x n:Int) - 1:=by
   rw [Vp4 (Ke8 hR),if_neg fun q=>?_]
   have:(decide (loN T x n<n)&&(Ky1 (T (loN T x n)) x ==0))=true:=by
     simp only [Bool.and_eq_true,decide_eq_true_eq,beq_iff_eq]
     exact ⟨q.1,by unfold Ky1;rw [q.2,if_neg (by omega),if_neg (by omega)]⟩
   rw [this] at hk;cases hk
 have hln:loN T x n<=n:=Kc7 _ _
 have hw:IntKind.i64.wrap ((loN T x n:Int) - 1)=(loN T x n:Int) - 1:=wi (by omega)
 rw [hp] at hQ
 have U2:=ca4 hr (Ja3 hr) gl (ca2 hk hw)
 exact AW.f U2 (Xn3 r v n T W x _ ⟨kr,er,Ja3 hr _⟩ (by omega) (Ke8 hR))
theorem Qv4 (w:Int)(r v n:Nat)(T:Nat->Int)(W:Nat->Nat->Int)(x:Int)(m:Ja1)(hr:∃ k e,m[r]?=some ⟨k,223,v,e,Jb0 n (keC T W)⟩)(hR:TrR w n T W):Ctr Tryz.prog 256 [.agg [.int .i64 w,.sl r v 0 n],.one (.int .i64 x)] m (.one (.int .i64 (plZ T x n))) m:=by
 cases hk:(decide (loN T x n<n)&&(Ky1 (T (loN T x n)) x ==0))
 ·exact Xh2 w r v n T W x m hr hR hk
 exact Xh3 w r v n T W x m hr hR hk
theorem Ku4 (w:Int)(r v n:Nat)(T:Nat->Int)(W:Nat->Nat->Int)(x:Int)(m:Ja1)(hr:∃ k e,m[r]?=some ⟨k,285,v,e,Jb0 n (keC T W)⟩)(hR:TrR w n T W):Ctr Tryz.prog 209 [.agg [.int .i64 w,.sl r v 0 n],.one (.int .i64 x)] m (.one (.int .i64 (plZ T x n))) m:=by
 refine Ctr.en Tryz.func209 [.tmp 4] 24 fun hwf Q hQ=>?_
 obtain ⟨kr,er,hr⟩:=hr
 have lr:=Ja8 hr
 have gl:(Jb0 n (keC T W)).length=n*4:=Ja5 (w:=4) (F:=keC T W) (fun _=>rfl) n
 have hn16:=hR.2.2.2.1
 have hn1:=hR.2.2.1
 have U3:=ca3 hr (Ja3 hr) gl
 refine AW.w 5 U3 Tru fun K J0=>?_
 refine AW.loopK [1,2] (fun i=>i<=n) (fun i=>[(5,.one (.int .i64 (plZ T x i))),(6,.one (.int .i64 (i:Int)))]) (fun i=>[]) (fun i=>n - i) 0 (by omega) ?_ ?_ fun i hi2=>?_
 · first|rfl|(simp only [KS,simprocAttr,plZ,Int.natCast_zero]<;>repeat' (first|rfl|apply And.intro))
 · first|rfl|(simp only [Ja4,push_cast,simprocAttr,U3,plZ,Int.natCast_zero]<;>rfl)
 try simp only [Jb3,Ja4,push_cast,simprocAttr,U3]
 refine AW.w 2 U3 Tru fun K J1=>?_
 refine AW.cond rfl (fun h11=>?_) (fun h11=>?_)
 ·have hlt:i<n:=by have:=of_decide_eq_true h11;omega
  have c1:(0:Int)<=(i:Int):=by omega
  have c2:(i:Int)<(n:Int):=by omega
  have ga0:(Jb0 n (keC T W))[i*4]?=some (.int .i64 (T i)):=Ji4 (w:=4) (F:=keC T W) (fun _=>rfl) hlt (a:=0) (by omega)
  refine AW.w 4 Tru Tru fun K J1=>?_
  have U4:=ca4 U3 c1 c2 (ca2 ga0 hlt)
  refine AW.c 1 U4 Tru ?_
  refine AW.cond rfl (fun h21=>?_) (fun h21=>?_)
  ·have hnx:plZ T x (i+1)=(i:Int):=if_pos (of_decide_eq_true h21)
   refine AW.w 3 U4 Tru ?_
   have hwi:IntKind.i64.wrap ((i:Int)+1)=(i:Int)+1:=wi (by omega)
   exact Wk (i+1) U4 (ca2 hwi hnx)
  have hnx:plZ T x (i+1)=plZ T x i:=if_neg (of_decide_eq_false h21)
  refine AW.w 3 U4 Tru ?_
  have hwi:IntKind.i64.wrap ((i:Int)+1)=(i:Int)+1:=wi (by omega)
  exact Wk (i+1) U4 (ca2 hwi hnx)
 have hin:i=n:=by have:=of_decide_eq_false h11;omega
 rw [hin]
 exact AW.f U3 Tru
theorem Xn1 (w:Int)(r v n:Nat)(T:Nat->Int)(W:Nat->Nat->Int)(x:Int)(m:Ja1)(hr:∃ k e,m[r]?=some ⟨k,223,v,e,Jb0 n (keC T W)⟩)(hR:TrR w n T W)(h0:plZ T x n<0):Ctr Tryz.prog 229 [.agg [.int .i64 w,.sl r v 0 n],.one (.int .i64 x)] m (.agg (c3C (trV w n T W x))) m:=by
 refine Ctr.en Tryz.func229 [.cell 4 59] 74 fun hwf Q hQ=>?_
 obtain ⟨kr,er,hr⟩:=hr
 have lr:=Ja8 hr
 have gl:(Jb0 n (keC T W)).length=n*4:=Ja5 (w:=4) (F:=keC T W) (fun _=>rfl) n
 have hn16:=hR.2.2.2.1
 have hn1:=hR.2.2.1
 have hd:=decide_eq_true hR
 have hv:trV w n T W x=W 0:=if_pos h0
 rw [hv] at hQ
 have g0:(0:Int)<(n:Int):=by omega
 have g2:0*4+4<=n*4:=by omega
 have ga:((Jb0 n (keC T W)).drop (0*4+1)).take 3=[.int .i64 (W 0 0),.int .i64 (W 0 1),.int .i64 (W 0 2)]:=Kb7 (w:=4) (F:=keC T W) (fun _=>rfl) hn1 (a:=1) (b:=3) (by omega)
 simp only [Nat.zero_mul,Nat.zero_add] at ga
 have g3:1+3<=n*4:=by omega
 have g4:0<n:=by omega
 have U5:=ca4 hr (Ja3 hr) gl (ca4 hd @Ja6 h0 (ca4 g0 ga g3 g4))
 exact AW.f U5 (ca2 (Kp2 w r v n T W _ ⟨kr,er,Ja3 hr _⟩) (Qv4 w r v n T W x _ ⟨kr,er,Ja3 hr _⟩ hR))
theorem Xn0 (w:Int)(r v n:Nat)(T:Nat->Int)(W:Nat->Nat->Int)(x:Int)(m:Ja1)(hr:∃ k e,m[r]?=some ⟨k,223,v,e,Jb0 n (keC T W)⟩)(hR:TrR w n T W)(a:Nat)(ha:plZ T x n=(a:Int))(han:a<n)(hk:(a:Int)=(n:Int) - 1):Ctr Tryz.prog 229 [.agg [.int .i64 w,.sl r v 0 n],.one (.int .i64 x)] m (.agg (c3C (trV w n T W x))) m:=by
 refine Ctr.en Tryz.func229 [.cell 4 59] 74 fun hwf Q hQ=>?_
 obtain ⟨kr,er,hr⟩:=hr
 have lr:=Ja8 hr
 have gl:(Jb0 n (keC T W)).length=n*4:=Ja5 (w:=4) (F:=keC T W) (fun _=>rfl) n
 have hn16:=hR.2.2.2.1
 have hn1:=hR.2.2.1
 have hd:=decide_eq_true hR
 have hw1:IntKind.i64.wrap ((n:Int) - 1)=(n:Int) - 1:=wi (by omega)
 have c1:(0:Int)<=(a:Int):=by omega
 have c2:(a:Int)<(n:Int):=by omega
 have c3:a*4+4<=n*4:=by omega
 have c4:a*4+1+3<=n*4:=by omega
 have nn:¬(a:Int)<0:=by omega
 have eb:((a:Int) ==(n:Int) - 1)=true:=by simpa using hk
 have hv:trV w n T W x=W a:=by
   unfold trV;rw [ha,if_neg nn,if_pos (.inl hk)];rfl
 rw [hv] at hQ
 have ga:((Jb0 n (keC T W)).drop (a*4+1)).take 3=[.int .i64 (W a 0),.int .i64 (W a 1),.int .i64 (W a 2)]:=Kb7 (w:=4) (F:=keC T W) (fun _=>rfl) han (a:=1) (b:=3) (by omega)
 have U6:=ca4 hr (Ja3 hr) gl (ca4 hd @Ja6 ha (ca4 nn hw1 eb (ca4 c1 c2 c3 (ca3 c4 ga han))))
 exact AW.f U6 (ca2 (Kp2 w r v n T W _ ⟨kr,er,Ja3 hr _⟩) (Qv4 w r v n T W x _ ⟨kr,er,Ja3 hr _⟩ hR))
theorem Xm9 (w:Int)(r v n:Nat)(T:Nat->Int)(W:Nat->Nat->Int)(x:Int)(m:Ja1)(hr:∃ k e,m[r]?=some ⟨k,223,v,e,Jb0 n (keC T W)⟩)(hR:TrR w n T W)(a:Nat)(ha:plZ T x n=(a:Int))(han:a<n)(hk:¬(a:Int)=(n:Int) - 1)(hw0:w=0):Ctr Tryz.prog 229 [.agg [.int .i64 w,.sl r v 0 n],.one (.int .i64 x)] m (.agg (c3C (trV w n T W x))) m:=by
 refine Ctr.en Tryz.func229 [.cell 4 59] 74 fun hwf Q hQ=>?_
 obtain ⟨kr,er,hr⟩:=hr
 have lr:=Ja8 hr
 have gl:(Jb0 n (keC T W)).length=n*4:=Ja5 (w:=4) (F:=keC T W) (fun _=>rfl) n
 have hn16:=hR.2.2.2.1
 have hn1:=hR.2.2.1
 have hd:=decide_eq_true hR
 have hw1:IntKind.i64.wrap ((n:Int) - 1)=(n:Int) - 1:=wi (by omega)
 have c1:(0:Int)<=(a:Int):=by omega
 have c2:(a:Int)<(n:Int):=by omega
 have c3:a*4+4<=n*4:=by omega
 have c4:a*4+1+3<=n*4:=by omega
 have nn:¬(a:Int)<0:=by omega
 have eb:((a:Int) ==(n:Int) - 1)=false:=by simpa using hk
 have ew:(w ==0)=true:=by simpa using hw0
 have hv:trV w n T W x=W a:=by
   unfold trV;rw [ha,if_neg nn,if_pos (.inr hw0)];rfl
 rw [hv] at hQ
 have ga:((Jb0 n (keC T W)).drop (a*4+1)).take 3=[.int .i64 (W a 0),.int .i64 (W a 1),.int .i64 (W a 2)]:=Kb7 (w:=4) (F:=keC T W) (fun _=>rfl) han (a:=1) (b:=3) (by omega)
 have U7:=ca4 hr (Ja3 hr) gl (ca4 hd @Ja6 ha (ca4 nn hw1 eb (ca4 ew c1 c2 (ca4 c3 c4 ga han))))
 exact AW.f U7 (ca2 (Kp2 w r v n T W _ ⟨kr,er,Ja3 hr _⟩) (Qv4 w r v n T W x _ ⟨kr,er,Ja3 hr _⟩ hR))
theorem Xm8 (w:Int)(r v n:Nat)(T:Nat->Int)(W:Nat->Nat->Int)(x:Int)(m:Ja1)(hr:∃ k e,m[r]?=some ⟨k,223,v,e,Jb0 n (keC T W)⟩)(hR:TrR w n T W)(a:Nat)(ha:plZ T x n=(a:Int))(han:a<n)(hk:¬(a:Int)=(n:Int) - 1)(hw0:¬w=0)(hw2:w=2):Ctr Tryz.prog 229 [.agg [.int .i64 w,.sl r v 0 n],.one (.int .i64 x)] m (.agg (c3C (trV w n T W x))) m:=by
 refine Ctr.en Tryz.func229 [.cell 4 59] 74 fun hwf Q hQ=>?_
 obtain ⟨kr,er,hr⟩:=hr
 have lr:=Ja8 hr
 have gl:(Jb0 n (keC T W)).length=n*4:=Ja5 (w:=4) (F:=keC T W) (fun _=>rfl) n
 have hn16:=hR.2.2.2.1
 have hn1:=hR.2.2.1
 have hd:=decide_eq_true hR
 have hw1:IntKind.i64.wrap ((n:Int) - 1)=(n:Int) - 1:=wi (by omega)
 have c1:(0:Int)<=(a:Int):=by omega
 have c2:(a:Int)<(n:Int):=by omega
 have c3:a*4+4<=n*4:=by omega
 have c4:a*4+1+3<=n*4:=by omega
 have nn:¬(a:Int)<0:=by omega
 have e2:(w ==2)=true:=by simpa using hw2
 have eb:((a:Int) ==(n:Int) - 1)=false:=by simpa using hk
 have ew:(w ==0)=false:=by simpa using hw0
 have han2:a+1<n:=by omega
 have hw2b:IntKind.i64.wrap ((a:Int)+1)=((a+1:Nat):Int):=by rw [wi (by omega)];push_cast;rfl
 have d1:(0:Int)<=((a+1:Nat):Int):=by omega
 have d2:((a+1:Nat):Int)<(n:Int):=by omega
 have d3:(a+1)*4+4<=n*4:=by omega
 obtain ⟨z,hz⟩:∃ z,z=a+1:=⟨_,rfl⟩
 rw [<-hz] at hw2b d1 d2 d3 han2
 have ga:=Jb5 (w:=4) (F:=keC T W) (fun _=>rfl) han
 have gz:=Jb5 (w:=4) (F:=keC T W) (fun _=>rfl) han2
 have ka:=Jo8 T W a
 have kz:=Jo8 T W z
 have hv:trV w n T W x=Kd4 (W a) (W z) (Qo0 (Km7 T x a)):=by
   unfold trV;rw [ha,if_neg nn,if_neg (fun q=>q.elim hk hw0),if_pos hw2,hz];rfl
 rw [hv] at hQ
 have hpa:Km7 T x a=Jg9 (IntKind.i64.wrap (x - T a)) (IntKind.i64.wrap (T z - T a)):=by rw [hz];rfl
 rw [hpa] at hQ
 have U8:=ca4 hr (Ja3 hr) gl (ca4 hd @Ja6 ha (ca4 nn hw1 eb (ca4 ew e2 hw2b (ca4 c1 c2 c3 (ca4 d1 d2 d3 (ca4 ga gz ka (ca3 kz han han2)))))))
 exact AW.fd [[.val,.rd 0,.val,.val,.rd 0,.val,.rw 0,.val,.val,.val,.rw 0,.ext,.fl,.wr,.wr]] U8 (ca4 (Kp2 w r v n T W _ ⟨kr,er,Ja3 hr _⟩) (Qv4 w r v n T W x _ ⟨kr,er,Ja3 hr _⟩ hR) Ju0 (ca2 Xk3 (Ke0 (W a) (W z))))
theorem Xm7 (w:Int)(r v n:Nat)(T:Nat->Int)(W:Nat->Nat->Int)(x:Int)(m:Ja1)(hr:∃ k e,m[r]?=some ⟨k,223,v,e,Jb0 n (keC T W)⟩)(hR:TrR w n T W)(a:Nat)(ha:plZ T x n=(a:Int))(han:a<n)(hk:¬(a:Int)=(n:Int) - 1)(hw0:¬w=0)(hw2:¬w=2):Ctr Tryz.prog 229 [.agg [.int .i64 w,.sl r v 0 n],.one (.int .i64 x)] m (.agg (c3C (trV w n T W x))) m:=by
 refine Ctr.en Tryz.func229 [.cell 4 59] 74 fun hwf Q hQ=>?_
 obtain ⟨kr,er,hr⟩:=hr
 have lr:=Ja8 hr
 have gl:(Jb0 n (keC T W)).length=n*4:=Ja5 (w:=4) (F:=keC T W) (fun _=>rfl) n
 have hn16:=hR.2.2.2.1
 have hn1:=hR.2.2.1
 have hd:=decide_eq_true hR
 have hw1:IntKind.i64.wrap ((n:Int) - 1)=(n:Int) - 1:=wi (by omega)
 have c1:(0:Int)<=(a:Int):=by omega
 have c2:(a:Int)<(n:Int):=by omega
 have c3:a*4+4<=n*4:=by omega
 have c4:a*4+1+3<=n*4:=by omega
 have nn:¬(a:Int)<0:=by omega
 have e2:(w ==2)=false:=by simpa using hw2
 have eb:((a:Int) ==(n:Int) - 1)=false:=by simpa using hk
 have ew:(w ==0)=false:=by simpa using hw0
 have han2:a+1<n:=by omega
 have hw2b:IntKind.i64.wrap ((a:Int)+1)=((a+1:Nat):Int):=by rw [wi (by omega)];push_cast;rfl
 have d1:(0:Int)<=((a+1:Nat):Int):=by omega
 have d2:((a+1:Nat):Int)<(n:Int):=by omega
 have d3:(a+1)*4+4<=n*4:=by omega
 obtain ⟨z,hz⟩:∃ z,z=a+1:=⟨_,rfl⟩
 rw [<-hz] at hw2b d1 d2 d3 han2
 have ga:=Jb5 (w:=4) (F:=keC T W) (fun _=>rfl) han
 have gz:=Jb5 (w:=4) (F:=keC T W) (fun _=>rfl) han2
 have ka:=Jo8 T W a
 have kz:=Jo8 T W z
 have hv:trV w n T W x=Kd4 (W a) (W z) (Km7 T x a):=by
   unfold trV;rw [ha,if_neg nn,if_neg (fun q=>q.elim hk hw0),if_neg hw2,hz];rfl
 rw [hv] at hQ
 have hpa:Km7 T x a=Jg9 (IntKind.i64.wrap (x - T a)) (IntKind.i64.wrap (T z - T a)):=by rw [hz];rfl
 rw [hpa] at hQ
 have U9:=ca4 hr (Ja3 hr) gl (ca4 hd @Ja6 ha (ca4 nn hw1 eb (ca4 ew e2 hw2b (ca4 c1 c2 c3 (ca4 d1 d2 d3 (ca4 ga gz ka (ca3 kz han han2)))))))
 exact AW.fd [[.val,.rd 0,.val,.val,.rd 0,.val,.rw 0,.val,.val,.val,.rw 0,.ext,.fl,.wr,.wr]] U9 (ca4 (Kp2 w r v n T W _ ⟨kr,er,Ja3 hr _⟩) (Qv4 w r v n T W x _ ⟨kr,er,Ja3 hr _⟩ hR) Ju0 (Ke0 (W a) (W z)))
theorem cat_c (w:Int)(r v n:Nat)(T:Nat->Int)(W:Nat->Nat->Int)(x:Int)(m:Ja1)(hr:∃ k e,m[r]?=some ⟨k,223,v,e,Jb0 n (keC T W)⟩)(hR:TrR w n T W):Ctr Tryz.prog 229 [.agg [.int .i64 w,.sl r v 0 n],.one (.int .i64 x)] m (.agg (c3C (trV w n T W x))) m:=by
 have hb:=Vw4 T x n
 by_cases h0:plZ T x n<0
 ·exact Xn1 w r v n T W x m hr hR h0
 obtain ⟨a,ha⟩:∃ a:Nat,plZ T x n=(a:Int):=⟨(plZ T x n).toNat,by omega⟩
 have han:a<n:=by omega
 by_cases h1:(a:Int)=(n:Int) - 1
 ·exact Xn0 w r v n T W x m hr hR a ha han h1
 by_cases h2:w=0
 ·exact Xm9 w r v n T W x m hr hR a ha han h1 h2
 by_cases h3:w=2
 ·exact Xm8 w r v n T W x m hr hR a ha han h1 h2 h3
 exact Xm7 w r v n T W x m hr hR a ha han h1 h2 h3
theorem Xh0 (w:Int)(r v n:Nat)(T:Nat->Int)(W:Nat->Nat->Int)(x:Int)(m:Ja1)(hr:∃ k e,m[r]?=some ⟨k,285,v,e,Jb0 n (keC T W)⟩)(hR:TrR w n T W)(h0:plZ T x n<0):Ctr Tryz.prog 164 [.agg [.int .i64 w,.sl r v 0 n],.one (.int .i64 x)] m (.agg (c3C (trV w n T W x))) m:=by
 refine Ctr.en Tryz.func164 [.cell 4 54] 72 fun hwf Q hQ=>?_
 obtain ⟨kr,er,hr⟩:=hr
 have lr:=Ja8 hr
 have gl:(Jb0 n (keC T W)).length=n*4:=Ja5 (w:=4) (F:=keC T W) (fun _=>rfl) n
 have hn16:=hR.2.2.2.1
 have hn1:=hR.2.2.1
 have hd:=decide_eq_true hR
 have hv:trV w n T W x=W 0:=if_pos h0
 rw [hv] at hQ
 have g0:(0:Int)<(n:Int):=by omega
 have g2:0*4+4<=n*4:=by omega
 have ga:((Jb0 n (keC T W)).drop (0*4+1)).take 3=[.int .i64 (W 0 0),.int .i64 (W 0 1),.int .i64 (W 0 2)]:=Kb7 (w:=4) (F:=keC T W) (fun _=>rfl) hn1 (a:=1) (b:=3) (by omega)
 simp only [Nat.zero_mul,Nat.zero_add] at ga
 have g3:1+3<=n*4:=by omega
 have g4:0<n:=by omega
 have U10:=ca4 hr (Ja3 hr) gl (ca4 hd @Ja6 h0 (ca4 g0 ga g3 g4))
 exact AW.f U10 (ca2 (Kn8 w r v n T W _ ⟨kr,er,Ja3 hr _⟩) (Ku4 w r v n T W x _ ⟨kr,er,Ja3 hr _⟩ hR))
theorem Xg9 (w:Int)(r v n:Nat)(T:Nat->Int)(W:Nat->Nat->Int)(x:Int)(m:Ja1)(hr:∃ k e,m[r]?=some ⟨k,285,v,e,Jb0 n (keC T W)⟩)(hR:TrR w n T W)(a:Nat)(ha:plZ T x n=(a:Int))(han:a<n)(hk:(a:Int)=(n:Int) - 1):Ctr Tryz.prog 164 [.agg [.int .i64 w,.sl r v 0 n],.one (.int .i64 x)] m (.agg (c3C (trV w n T W x))) m:=by
 refine Ctr.en Tryz.func164 [.cell 4 54] 72 fun hwf Q hQ=>?_
 obtain ⟨kr,er,hr⟩:=hr
 have lr:=Ja8 hr
 have gl:(Jb0 n (keC T W)).length=n*4:=Ja5 (w:=4) (F:=keC T W) (fun _=>rfl) n
 have hn16:=hR.2.2.2.1
 have hn1:=hR.2.2.1
 have hd:=decide_eq_true hR
 have hw1:IntKind.i64.wrap ((n:Int) - 1)=(n:Int) - 1:=wi (by omega)
 have c1:(0:Int)<=(a:Int):=by omega
 have c2:(a:Int)<(n:Int):=by omega
 have c3:a*4+4<=n*4:=by omega
 have c4:a*4+1+3<=n*4:=by omega
 have nn:¬(a:Int)<0:=by omega
 have eb:((a:Int) ==(n:Int) - 1)=true:=by simpa using hk
 have hv:trV w n T W x=W a:=by
   unfold trV;rw [ha,if_neg nn,if_pos (.inl hk)];rfl
 rw [hv] at hQ
 have ga:((Jb0 n (keC T W)).drop (a*4+1)).take 3=[.int .i64 (W a 0),.int .i64 (W a 1),.int .i64 (W a 2)]:=Kb7 (w:=4) (F:=keC T W) (fun _=>rfl) han (a:=1) (b:=3) (by omega)
 have U11:=ca4 hr (Ja3 hr) gl (ca4 hd @Ja6 ha (ca4 nn hw1 eb (ca4 c1 c2 c3 (ca3 c4 ga han))))
 exact AW.f U11 (ca2 (Kn8 w r v n T W _ ⟨kr,er,Ja3 hr _⟩) (Ku4 w r v n T W x _ ⟨kr,er,Ja3 hr _⟩ hR))
theorem Xg8 (w:Int)(r v n:Nat)(T:Nat->Int)(W:Nat->Nat->Int)(x:Int)(m:Ja1)(hr:∃ k e,m[r]?=some ⟨k,285,v,e,Jb0 n (keC T W)⟩)(hR:TrR w n T W)(a:Nat)(ha:plZ T x n=(a:Int))(han:a<n)(hk:¬(a:Int)=(n:Int) - 1)(hw0:w=0):Ctr Tryz.prog 164 [.agg [.int .i64 w,.sl r v 0 n],.one (.int .i64 x)] m (.agg (c3C (trV w n T W x))) m:=by
 refine Ctr.en Tryz.func164 [.cell 4 54] 72 fun hwf Q hQ=>?_
 obtain ⟨kr,er,hr⟩:=hr
 have lr:=Ja8 hr
 have gl:(Jb0 n (keC T W)).length=n*4:=Ja5 (w:=4) (F:=keC T W) (fun _=>rfl) n
 have hn16:=hR.2.2.2.1
 have hn1:=hR.2.2.1
 have hd:=decide_eq_true hR
 have hw1:IntKind.i64.wrap ((n:Int) - 1)=(n:Int) - 1:=wi (by omega)
 have c1:(0:Int)<=(a:Int):=by omega
 have c2:(a:Int)<(n:Int):=by omega
 have c3:a*4+4<=n*4:=by omega
 have c4:a*4+1+3<=n*4:=by omega
 have nn:¬(a:Int)<0:=by omega
 have eb:((a:Int) ==(n:Int) - 1)=false:=by simpa using hk
 have ew:(w ==0)=true:=by simpa using hw0
 have hv:trV w n T W x=W a:=by
   unfold trV;rw [ha,if_neg nn,if_pos (.inr hw0)];rfl
 rw [hv] at hQ
 have ga:((Jb0 n (keC T W)).drop (a*4+1)).take 3=[.int .i64 (W a 0),.int .i64 (W a 1),.int .i64 (W a 2)]:=Kb7 (w:=4) (F:=keC T W) (fun _=>rfl) han (a:=1) (b:=3) (by omega)
 have U12:=ca4 hr (Ja3 hr) gl (ca4 hd @Ja6 ha (ca4 nn hw1 eb (ca4 ew c1 c2 (ca4 c3 c4 ga han))))
 exact AW.f U12 (ca2 (Kn8 w r v n T W _ ⟨kr,er,Ja3 hr _⟩) (Ku4 w r v n T W x _ ⟨kr,er,Ja3 hr _⟩ hR))
theorem Xg7 (w:Int)(r v n:Nat)(T:Nat->Int)(W:Nat->Nat->Int)(x:Int)(m:Ja1)(hr:∃ k e,m[r]?=some ⟨k,285,v,e,Jb0 n (keC T W)⟩)(hR:TrR w n T W)(a:Nat)(ha:plZ T x n=(a:Int))(han:a<n)(hk:¬(a:Int)=(n:Int) - 1)(hw0:¬w=0)(hw2:w=2):Ctr Tryz.prog 164 [.agg [.int .i64 w,.sl r v 0 n],.one (.int .i64 x)] m (.agg (c3C (trV w n T W x))) m:=by
 refine Ctr.en Tryz.func164 [.cell 4 54] 72 fun hwf Q hQ=>?_
 obtain ⟨kr,er,hr⟩:=hr
 have lr:=Ja8 hr
 have gl:(Jb0 n (keC T W)).length=n*4:=Ja5 (w:=4) (F:=keC T W) (fun _=>rfl) n
 have hn16:=hR.2.2.2.1
 have hn1:=hR.2.2.1
 have hd:=decide_eq_true hR
 have hw1:IntKind.i64.wrap ((n:Int) - 1)=(n:Int) - 1:=wi (by omega)
 have c1:(0:Int)<=(a:Int):=by omega
 have c2:(a:Int)<(n:Int):=by omega
 have c3:a*4+4<=n*4:=by omega
 have c4:a*4+1+3<=n*4:=by omega
 have nn:¬(a:Int)<0:=by omega
 have e2:(w ==2)=true:=by simpa using hw2
 have eb:((a:Int) ==(n:Int) - 1)=false:=by simpa using hk
 have ew:(w ==0)=false:=by simpa using hw0
 have han2:a+1<n:=by omega
 have hw2b:IntKind.i64.wrap ((a:Int)+1)=((a+1:Nat):Int):=by rw [wi (by omega)];push_cast;rfl
 have d1:(0:Int)<=((a+1:Nat):Int):=by omega
 have d2:((a+1:Nat):Int)<(n:Int):=by omega
 have d3:(a+1)*4+4<=n*4:=by omega
 obtain ⟨z,hz⟩:∃ z,z=a+1:=⟨_,rfl⟩
 rw [<-hz] at hw2b d1 d2 d3 han2
 have ga:=Jb5 (w:=4) (F:=keC T W) (fun _=>rfl) han
 have gz:=Jb5 (w:=4) (F:=keC T W) (fun _=>rfl) han2
 have ka:=Jo8 T W a
 have kz:=Jo8 T W z
 have hv:trV w n T W x=Kd4 (W a) (W z) (Qo0 (Km7 T x a)):=by
   unfold trV;rw [ha,if_neg nn,if_neg (fun q=>q.elim hk hw0),if_pos hw2,hz];rfl
 rw [hv] at hQ
 have hpa:Km7 T x a=Jg9 (IntKind.i64.wrap (x - T a)) (IntKind.i64.wrap (T z - T a)):=by rw [hz];rfl
 rw [hpa] at hQ
 have U13:=ca4 hr (Ja3 hr) gl (ca4 hd @Ja6 ha (ca4 nn hw1 eb (ca4 ew e2 hw2b (ca4 c1 c2 c3 (ca4 d1 d2 d3 (ca4 ga gz ka (ca3 kz han han2)))))))
 exact AW.fd [[.val,.rd 0,.val,.val,.rd 0,.val,.rw 0,.val,.val,.val,.rw 0,.ext,.fl,.wr,.wr]] U13 (ca4 (Kn8 w r v n T W _ ⟨kr,er,Ja3 hr _⟩) (Ku4 w r v n T W x _ ⟨kr,er,Ja3 hr _⟩ hR) Qd4 (ca2 Vv7 (Ku6 (W a) (W z))))
theorem Xg6 (w:Int)(r v n:Nat)(T:Nat->Int)(W:Nat->Nat->Int)(x:Int)(m:Ja1)(hr:∃ k e,m[r]?=some ⟨k,285,v,e,Jb0 n (keC T W)⟩)(hR:TrR w n T W)(a:Nat)(ha:plZ T x n=(a:Int))(han:a<n)(hk:¬(a:Int)=(n:Int) - 1)(hw0:¬w=0)(hw2:¬w=2):Ctr Tryz.prog 164 [.agg [.int .i64 w,.sl r v 0 n],.one (.int .i64 x)] m (.agg (c3C (trV w n T W x))) m:=by
 refine Ctr.en Tryz.func164 [.cell 4 54] 72 fun hwf Q hQ=>?_
 obtain ⟨kr,er,hr⟩:=hr
 have lr:=Ja8 hr
 have gl:(Jb0 n (keC T W)).length=n*4:=Ja5 (w:=4) (F:=keC T W) (fun _=>rfl) n
 have hn16:=hR.2.2.2.1
 have hn1:=hR.2.2.1
 have hd:=decide_eq_true hR
 have hw1:IntKind.i64.wrap ((n:Int) - 1)=(n:Int) - 1:=wi (by omega)
 have c1:(0:Int)<=(a:Int):=by omega
 have c2:(a:Int)<(n:Int):=by omega
 have c3:a*4+4<=n*4:=by omega
 have c4:a*4+1+3<=n*4:=by omega
 have nn:¬(a:Int)<0:=by omega
 have e2:(w ==2)=false:=by simpa using hw2
 have eb:((a:Int) ==(n:Int) - 1)=false:=by simpa using hk
 have ew:(w ==0)=false:=by simpa using hw0
 have han2:a+1<n:=by omega
 have hw2b:IntKind.i64.wrap ((a:Int)+1)=((a+1:Nat):Int):=by rw [wi (by omega)];push_cast;rfl
 have d1:(0:Int)<=((a+1:Nat):Int):=by omega
 have d2:((a+1:Nat):Int)<(n:Int):=by omega
 have d3:(a+1)*4+4<=n*4:=by omega
 obtain ⟨z,hz⟩:∃ z,z=a+1:=⟨_,rfl⟩
 rw [<-hz] at hw2b d1 d2 d3 han2
 have ga:=Jb5 (w:=4) (F:=keC T W) (fun _=>rfl) han
 have gz:=Jb5 (w:=4) (F:=keC T W) (fun _=>rfl) han2
 have ka:=Jo8 T W a
 have kz:=Jo8 T W z
 have hv:trV w n T W x=Kd4 (W a) (W z) (Km7 T x a):=by
   unfold trV;rw [ha,if_neg nn,if_neg (fun q=>q.elim hk hw0),if_neg hw2,hz];rfl
 rw [hv] at hQ
 have hpa:Km7 T x a=Jg9 (IntKind.i64.wrap (x - T a)) (IntKind.i64.wrap (T z - T a)):=by rw [hz];rfl
 rw [hpa] at hQ
 have U14:=ca4 hr (Ja3 hr) gl (ca4 hd @Ja6 ha (ca4 nn hw1 eb (ca4 ew e2 hw2b (ca4 c1 c2 c3 (ca4 d1 d2 d3 (ca4 ga gz ka (ca3 kz han han2)))))))
 exact AW.fd [[.val,.rd 0,.val,.val,.rd 0,.val,.rw 0,.val,.val,.val,.rw 0,.ext,.fl,.wr,.wr]] U14 (ca4 (Kn8 w r v n T W _ ⟨kr,er,Ja3 hr _⟩) (Ku4 w r v n T W x _ ⟨kr,er,Ja3 hr _⟩ hR) Qd4 (Ku6 (W a) (W z)))
theorem rat_c (w:Int)(r v n:Nat)(T:Nat->Int)(W:Nat->Nat->Int)(x:Int)(m:Ja1)(hr:∃ k e,m[r]?=some ⟨k,285,v,e,Jb0 n (keC T W)⟩)(hR:TrR w n T W):Ctr Tryz.prog 164 [.agg [.int .i64 w,.sl r v 0 n],.one (.int .i64 x)] m (.agg (c3C (trV w n T W x))) m:=by
 have hb:=Vw4 T x n
 by_cases h0:plZ T x n<0
 ·exact Xh0 w r v n T W x m hr hR h0
 obtain ⟨a,ha⟩:∃ a:Nat,plZ T x n=(a:Int):=⟨(plZ T x n).toNat,by omega⟩
 have han:a<n:=by omega
 by_cases h1:(a:Int)=(n:Int) - 1
 ·exact Xg9 w r v n T W x m hr hR a ha han h1
 by_cases h2:w=0
 ·exact Xg8 w r v n T W x m hr hR a ha han h1 h2
 by_cases h3:w=2
 ·exact Xg7 w r v n T W x m hr hR a ha han h1 h2 h3
 exact Xg6 w r v n T W x m hr hR a ha han h1 h2 h3
def Jh8 (s:SC)(n x:Int):V:=if n<0\/(s.nt:Int)<=n then z0V else trV (s.tw n.toNat) (s.kn n.toNat) (s.kt n.toNat) (s.kv n.toNat) x
abbrev SQ:=MT × Int
def spC (q:SQ):List CV:=[.int .i64 (q.1 0 0),.int .i64 (q.1 0 1),.int .i64 (q.1 0 2),.int .i64 (q.1 1 0),.int .i64 (q.1 1 1),.int .i64 (q.1 1 2),.int .i64 (q.1 2 0),.int .i64 (q.1 2 1),.int .i64 (q.1 2 2),.int .i64 (q.1 3 0),.int .i64 (q.1 3 1),.int .i64 (q.1 3 2),.int .i64 q.2]
def stillQ:SQ:=(Jq3 65536,65536)
def Qe1 (s:SC)(x:Int)(i:Nat):MT:=Kd0 (Kh8 (Jh8 s (s.jm i) x)) (Js8 (Jh8 s (s.jt i) x)) (Jq3 (s.js i))
def onQ (s:SC)(tb:Nat->SQ)(p:Int)(i:Nat):SQ:=if 0<=p/\p<(i:Int) then tb p.toNat else stillQ
def Qi8 (s:SC)(x:Int)(tb:Nat->SQ)(i:Nat):SQ:=(Jk4 (onQ s tb (s.jp i) i).1 (Qe1 s x i),Jd2 (onQ s tb (s.jp i) i).2 (s.js i))
def jts (s:SC)(x:Int):Nat->Nat->SQ
 | 0=>fun _=>stillQ
 | i+1=>fun k=>if k=i then Qi8 s x (jts s x i) i else jts s x i k
def jtQ (s:SC)(x:Int)(k:Nat):SQ:=jts s x (k+1) k
theorem Vq5 (s:SC)(x:Int):∀ {i k:Nat},k<i->jts s x i k=jtQ s x k
 | i+1,k,h=>by
  by_cases e:k=i
  ·rw [e];rfl
  have h1:jts s x (i+1) k=jts s x i k:=if_neg e
  rw [h1];exact Vq5 s x (by omega)
theorem Qf0 (s:SC)(x:Int)(i:Nat):jtQ s x i=Qi8 s x (jtQ s x) i:=by
 have h1:jtQ s x i=Qi8 s x (jts s x i) i:=if_pos rfl
 rw [h1]
 have h2:onQ s (jts s x i) (s.jp i) i=onQ s (jtQ s x) (s.jp i) i:=by
  unfold onQ;split
  ·rename_i h;exact Vq5 s x (by omega)
  rfl
 unfold Qi8;rw [h2]
def joF (s:SC)(x:Int)(k:Nat):List CV:=spC (jtQ s x k)
def spQ (s:SC)(x:Int)(i:Int):SQ:=if i<0 then stillQ else jtQ s x i.toNat
theorem Xb2 (s:SC)(R:RWs)(n x:Int)(m:Ja1)(hR:ScR 140 119 223 148 155 m s R)(hT:∀ i,i<s.nt->TrS s i)(h0:n<0):Ctr Tryz.prog 185 [.agg (scC s R),.one (.int .i64 n),.one (.int .i64 x)] m (.agg (c3C (Jh8 s n x))) m:=by
 refine Ctr.en Tryz.func185 [.cell 6 59] 24 fun hwf Q hQ=>?_
 have hv:Jh8 s n x=z0V:=if_pos (.inl h0)
 rw [hv] at hQ
 have z0:∀ k,z0V k=0:=fun _=>rfl
 have U1:=ca4 @Je1 @Jd8 @Je0 (ca3 @Ja6 h0 z0)
 exact AW.f U1 Tru
theorem Xb1 (s:SC)(R:RWs)(n x:Int)(m:Ja1)(hR:ScR 140 119 223 148 155 m s R)(hT:∀ i,i<s.nt->TrS s i)(h0:¬n<0)(h1:(s.nt:Int)<=n):Ctr Tryz.prog 185 [.agg (scC s R),.one (.int .i64 n),.one (.int .i64 x)] m (.agg (c3C (Jh8 s n x))) m:=by
 refine Ctr.en Tryz.func185 [.cell 6 59] 24 fun hwf Q hQ=>?_
 have hv:Jh8 s n x=z0V:=if_pos (.inr h1)
 rw [hv] at hQ
 have z0:∀ k,z0V k=0:=fun _=>rfl
 have U2:=ca4 @Je1 @Jd8 @Je0 (ca4 @Ja6 h0 h1 z0)
 exact AW.f U2 Tru
theorem Xb0 (s:SC)(R:RWs)(n x:Int)(m:Ja1)(hR:ScR 140 119 223 148 155 m s R)(hT:∀ i,i<s.nt->TrS s i)(h0:¬n<0)(h1:¬(s.nt:Int)<=n):Ctr Tryz.prog 185 [.agg (scC s R),.one (.int .i64 n),.one (.int .i64 x)] m (.agg (c3C (Jh8 s n x))) m:=by
 refine Ctr.en Tryz.func185 [.cell 6 59] 24 fun hwf Q hQ=>?_
 obtain ⟨kt,et,ht⟩:=hR.ht
 have lt:=Ja8 ht
 have nt:=hR.nt
 have tl:(Jb0 s.nt (tC s R)).length=s.nt*2:=Ja5 (w:=2) (F:=tC s R) (fun _=>rfl) _
 obtain ⟨i,hi⟩:∃ i:Nat,n=(i:Int):=⟨n.toNat,by omega⟩
 subst hi
 have hlt:i<s.nt:=by omega
 obtain ⟨kk,ek,hky⟩:=hR.hk i hlt
 have lky:=Ja8 hky
 have c1:(0:Int)<=(i:Int):=by omega
 have c2:(i:Int)<(s.nt:Int):=by omega
 have c3:i*2+2<=s.nt*2:=by omega
 have ga:=Jb5 (w:=2) (F:=tC s R) (fun _=>rfl) hlt
 have gk:=Vd6 s R i
 have hv:Jh8 s (i:Int) x=trV (s.tw i) (s.kn i) (s.kt i) (s.kv i) x:=by unfold Jh8;rw [if_neg (by omega)];rfl
 rw [hv] at hQ
 have n1:¬(i:Int)<0:=by omega
 have n2:¬(s.nt:Int)<=(i:Int):=by omega
 have U3:=ca4 @Je1 @Jd8 @Je0 (ca4 @Ja6 ht (Ja3 ht) (ca4 tl c1 c2 (ca4 c3 ga gk (ca3 hlt n1 n2))))
 exact AW.f U3 (cat_c (s.tw i) (R.k i) (R.vk i) (s.kn i) (s.kt i) (s.kv i) x _ ⟨kk,ek,Ja3 hky _⟩ (hT i hlt))
theorem Kc9 (s:SC)(R:RWs)(n x:Int)(m:Ja1)(hR:ScR 140 119 223 148 155 m s R)(hT:∀ i,i<s.nt->TrS s i):Ctr Tryz.prog 185 [.agg (scC s R),.one (.int .i64 n),.one (.int .i64 x)] m (.agg (c3C (Jh8 s n x))) m:=by
 by_cases h0:n<0
 ·exact Xb2 s R n x m hR hT h0
 by_cases h1:(s.nt:Int)<=n
 ·exact Xb1 s R n x m hR hT h0 h1
 exact Xb0 s R n x m hR hT h0 h1
theorem Vu5 (s:SC)(R:RWs)(n x:Int)(m:Ja1)(hR:ScR 138 143 285 146 150 m s R)(hT:∀ i,i<s.nt->TrS s i)(h0:n<0):Ctr Tryz.prog 79 [.agg (scC s R),.one (.int .i64 n),.one (.int .i64 x)] m (.agg (c3C (Jh8 s n x))) m:=by
 refine Ctr.en Tryz.func79 [.cell 6 54] 17 fun hwf Q hQ=>?_
 have hv:Jh8 s n x=z0V:=if_pos (.inl h0)
 rw [hv] at hQ
 have z0:∀ k,z0V k=0:=fun _=>rfl
 have U4:=ca4 @Je1 @Jd8 @Je0 (ca3 @Ja6 h0 z0)
 exact AW.f U4 Tru
theorem Vu4 (s:SC)(R:RWs)(n x:Int)(m:Ja1)(hR:ScR 138 143 285 146 150 m s R)(hT:∀ i,i<s.nt->TrS s i)(h0:¬n<0)(h1:¬(s.nt:Int)<=n):Ctr Tryz.prog 79 [.agg (scC s R),.one (.int .i64 n),.one (.int .i64 x)] m (.agg (c3C (Jh8 s n x))) m:=by
 refine Ctr.en Tryz.func79 [.cell 6 54] 17 fun hwf Q hQ=>?_
 obtain ⟨kt,et,ht⟩:=hR.ht
 have lt:=Ja8 ht
 have nt:=hR.nt
 have tl:(Jb0 s.nt (tC s R)).length=s.nt*2:=Ja5 (w:=2) (F:=tC s R) (fun _=>rfl) _
 obtain ⟨i,hi⟩:∃ i:Nat,n=(i:Int):=⟨n.toNat,by omega⟩
 subst hi
 have hlt:i<s.nt:=by omega
 obtain ⟨kk,ek,hky⟩:=hR.hk i hlt
 have lky:=Ja8 hky
 have c1:(0:Int)<=(i:Int):=by omega
 have c2:(i:Int)<(s.nt:Int):=by omega
 have c3:i*2+2<=s.nt*2:=by omega
 have ga:=Jb5 (w:=2) (F:=tC s R) (fun _=>rfl) hlt
 have gk:=Vd6 s R i
 have hv:Jh8 s (i:Int) x=trV (s.tw i) (s.kn i) (s.kt i) (s.kv i) x:=by unfold Jh8;rw [if_neg (by omega)];rfl
 rw [hv] at hQ
 have n1:¬(i:Int)<0:=by omega
 have n2:¬(s.nt:Int)<=(i:Int):=by omega
 have U5:=ca4 @Je1 @Jd8 @Je0 (ca4 @Ja6 ht (Ja3 ht) (ca4 tl c1 c2 (ca4 c3 ga gk (ca3 hlt n1 n2))))
 exact AW.f U5 (rat_c (s.tw i) (R.k i) (R.vk i) (s.kn i) (s.kt i) (s.kv i) x _ ⟨kk,ek,Ja3 hky _⟩ (hT i hlt))
theorem Qd0 (s:SC)(R:RWs)(n x:Int)(m:Ja1)(hR:ScR 138 143 285 146 150 m s R)(hT:∀ i,i<s.nt->TrS s i)(hn:n<(s.nt:Int)):Ctr Tryz.prog 79 [.agg (scC s R),.one (.int .i64 n),.one (.int .i64 x)] m (.agg (c3C (Jh8 s n x))) m:=by
 by_cases h0:n<0
 ·exact Vu5 s R n x m hR hT h0
 exact Vu4 s R n x m hR hT h0 (by omega)
theorem Kg2 (m:Ja1):Ctr Tryz.prog 214 [] m (.agg (spC stillQ)) m:=by
 exact Ctr.f Tryz.func214 [.cell 0 344] 3 @Ke1 Kn5
theorem Qy0 (s:SC)(x:Int)(i:Nat)(M:MT)(r:Int)(h:jtQ s x i=(M,r)):Jb0 i (joF s x)++[.int .i64 (M 0 0),.int .i64 (M 0 1),.int .i64 (M 0 2),.int .i64 (M 1 0),.int .i64 (M 1 1),.int .i64 (M 1 2),.int .i64 (M 2 0),.int .i64 (M 2 1),.int .i64 (M 2 2),.int .i64 (M 3 0),.int .i64 (M 3 1),.int .i64 (M 3 2),.int .i64 r]=Jb0 (i+1) (joF s x):=by
 have h1:Jb0 (i+1) (joF s x)=Jb0 i (joF s x)++spC (jtQ s x i):=rfl
 rw [h1,h];rfl
theorem Vy4 (s:SC)(x:Int)(i:Nat)(on:SQ)(h:onQ s (jtQ s x) (s.jp i) i=on):jtQ s x i=(Jk4 on.1 (Qe1 s x i),Jd2 on.2 (s.js i)):=by
 rw [Qf0 s x i];unfold Qi8;rw [h]
theorem Kp9 (q:SQ):spC q=([.int .i64 (q.1 0 0),.int .i64 (q.1 0 1),.int .i64 (q.1 0 2),.int .i64 (q.1 1 0),.int .i64 (q.1 1 1),.int .i64 (q.1 1 2),.int .i64 (q.1 2 0),.int .i64 (q.1 2 1),.int .i64 (q.1 2 2),.int .i64 (q.1 3 0),.int .i64 (q.1 3 1),.int .i64 (q.1 3 2),.int .i64 q.2]):=rfl
theorem Vi4 (s:SC)(R:RWs)(x:Int)(m:Ja1)(hR:ScR 140 119 223 148 155 m s R)(hT:∀ i,i<s.nt->TrS s i)(hn:s.nj<=1000000):Ctr Tryz.prog 169 [.agg (scC s R),.one (.int .i64 x)] m (.one (.sl m.length 0 0 s.nj)) (m++[⟨.grow,344,0,13,Jb0 (s.nj) (joF s x)⟩]):=by
 refine Ctr.en Tryz.func169 [.tmp 4] 65 fun hwf Q hQ=>?_
 obtain ⟨kj,ej,hj⟩:=hR.hj
 have lj:=Ja8 hj
 have nj:=hR.nj
 have jl:(Jb0 s.nj (jC s)).length=s.nj*4:=Ja5 (w:=4) (F:=jC s) (fun _=>rfl) _
 have hlt0:∀ k,¬m.length+k<m.length:=fun k=>by omega
 have U6:=ca4 @Je1 @Jd8 @Je0 (ca4 @Ja6 hj (Ja3 hj) (ca3 jl @Ke1 @Kp9))
 refine AW.w 5 U6 Tru fun K J0=>?_
 refine AW.nilTm 344 13 5 rfl ?_
 try simp only [push_cast,simprocAttr,U6]
 refine AW.loopK [1,2,11,12] (fun i=>i<=s.nj) (fun i=>[(5,.one (.sl (m.length+1) i 0 i)),(13,.one (.int .i64 (i:Int)))]) (fun i=>[(m.length+1,⟨.grow,344,i,13,Jb0 i (joF s x)⟩)]) (fun i=>s.nj - i) 0 (by omega) ?_ ?_ fun i hi2=>?_
 · first|rfl|(simp only [KS,simprocAttr,Jb0,Int.natCast_zero]<;>repeat' (first|rfl|apply And.intro))
 · (simp only [Ja4,push_cast,simprocAttr,Jb0])<;>rfl
 try simp only [Jb3,Ja4,push_cast,simprocAttr,U6]
 refine AW.w 2 U6 Tru fun K J1=>?_
 refine AW.cond rfl (fun h14=>?_) (fun h14=>?_)
 ·have hlt:i<s.nj:=by have:=of_decide_eq_true h14;omega
  have c1:(0:Int)<=(i:Int):=by omega
  have c2:(i:Int)<(s.nj:Int):=by omega
  have c3:i*4+4<=s.nj*4:=by omega
  have ga:=Jb5 (w:=4) (F:=jC s) (fun _=>rfl) hlt
  have gk:=Qy1 s i
  have q1:i<=140737488355327:=by omega
  have q2:(i+1)*104<=140737488355328:=by omega
  have gli:(Jb0 i (joF s x)).length=i*13:=Ja5 (w:=13) (F:=joF s x) (fun _=>rfl) i
  refine AW.w 4 Tru Tru fun K J1=>?_
  have U7:=ca4 U6 c1 c2 (ca4 c3 ga gk (ca4 q1 q2 gli hlt))
  refine AW.w 3 U7 Kg2 fun K J2=>?_
  refine AW.q fun K J3=>?_
  have hk:¬0<=s.jp i\/(0<=s.jp i/\¬s.jp i<(i:Int))\/(0<=s.jp i/\s.jp i<(i:Int)):=by omega
  rcases hk with e1|⟨e1,e2⟩|⟨e1,e2⟩
  ·have hon:(onQ s (jtQ s x) (s.jp i) i)=stillQ:=if_neg (by omega)
   have hap:=Qy0 s x i (Jk4 stillQ.1 (Qe1 s x i)) (Jd2 stillQ.2 (s.js i)) (Vy4 s x i _ hon)
   have U8:=ca2 U7 e1
   refine AW.w 5 U8 Tru ?_
   refine AW.q fun K J2=>?_
   refine AW.draw [.rd 0,.val,.rd 0,.val,.ext,.ext,.rd 0,.val,.rd 0,.val,.ext,.ext,.val,.rd 0,.ext,.ext,.ext,.fl,.wr] fol (by decide) (by kernel_rfl) ?_
   simp only [push_cast,simprocAttr,U8]
   refine DCall.z (Kc9 s R (s.jm i) x _ (hR.app _) hT) ?_
   simp only [push_cast,simprocAttr,U8]
   refine DCall.z (Qx1 _ _) ?_
   simp only [push_cast,simprocAttr,U8]
   refine DCall.z (Kc9 s R (s.jt i) x _ (hR.app _) hT) ?_
   simp only [push_cast,simprocAttr,U8]
   refine DCall.z (Ky4 _ _) ?_
   simp only [push_cast,simprocAttr,U8]
   refine DCall.z (Qc5 _ _) ?_
   simp only [push_cast,simprocAttr,U8]
   refine DExt.by (by first|rfl|exact (List.append_nil _).symm|(simp only [List.append_assoc,List.cons_append,List.nil_append];rfl)) ?_
   simp only [push_cast,simprocAttr,U8]
   refine DCall.z ((by have h:=fun M q=>Ks5 (m.length+4) 0 (Kh8 (Jh8 s (s.jm i) x)) (Js8 (Jh8 s (s.jt i) x)) (Jq3 (s.js i)) M q;rw [show Kd0 (Kh8 (Jh8 s (s.jm i) x)) (Js8 (Jh8 s (s.jt i) x)) (Jq3 (s.js i))=Qe1 s x i from rfl] at h;exact h _ ⟨.grow,12,by rw [Jf1];rfl⟩)) ?_
   simp only [push_cast,simprocAttr,U8]
   refine AW.wd [[.val,.val,.rd 0,.rd 0,.ext,.val,.rd 0,.val,.rd 0,.ext,.val,.ext,.wr,.val]] 4 U8 (ca2 (Ka5 stillQ.1 (Qe1 s x i)) Jm1) ?_
   have hwi:IntKind.i64.wrap ((i:Int)+1)=(i:Int)+1:=wi (by omega)
   refine ⟨i+1,by omega,by omega,?_⟩
   try simp only [Jb3,Ja4,push_cast,simprocAttr,U8,hwi,hap]
   exact Weak.to (extra:=_) (by simp only [KS,simprocAttr,hwi,hap]) (by first|rfl|(simp only [List.append_assoc,List.cons_append,List.nil_append];rfl)) (by first|rfl|(simp [AV.below,CV.below];done)|(simp [AV.below,CV.below];omega)) (by exact MWf.app (hwf.grow (by simp)) (Ja0 (hR.bel _ (by simp)) (Ja0 (Jb4 _ (fun _=>rfl) _) Jb1)))
  ·have hon:(onQ s (jtQ s x) (s.jp i) i)=stillQ:=if_neg (by omega)
   have hap:=Qy0 s x i (Jk4 stillQ.1 (Qe1 s x i)) (Jd2 stillQ.2 (s.js i)) (Vy4 s x i _ hon)
   have U9:=ca3 U7 e1 e2
   refine AW.w 5 U9 Tru ?_
   refine AW.q fun K J2=>?_
   refine AW.draw [.rd 0,.val,.rd 0,.val,.ext,.ext,.rd 0,.val,.rd 0,.val,.ext,.ext,.val,.rd 0,.ext,.ext,.ext,.fl,.wr] fol (by decide) (by kernel_rfl) ?_
   simp only [push_cast,simprocAttr,U9]
   refine DCall.z (Kc9 s R (s.jm i) x _ (hR.app _) hT) ?_
   simp only [push_cast,simprocAttr,U9]
   refine DCall.z (Qx1 _ _) ?_
   simp only [push_cast,simprocAttr,U9]
   refine DCall.z (Kc9 s R (s.jt i) x _ (hR.app _) hT) ?_
   simp only [push_cast,simprocAttr,U9]
   refine DCall.z (Ky4 _ _) ?_
   simp only [push_cast,simprocAttr,U9]
   refine DCall.z (Qc5 _ _) ?_
   simp only [push_cast,simprocAttr,U9]
   refine DExt.by (by first|rfl|exact (List.append_nil _).symm|(simp only [List.append_assoc,List.cons_append,List.nil_append];rfl)) ?_
   simp only [push_cast,simprocAttr,U9]
   refine DCall.z ((by have h:=fun M q=>Ks5 (m.length+4) 0 (Kh8 (Jh8 s (s.jm i) x)) (Js8 (Jh8 s (s.jt i) x)) (Jq3 (s.js i)) M q;rw [show Kd0 (Kh8 (Jh8 s (s.jm i) x)) (Js8 (Jh8 s (s.jt i) x)) (Jq3 (s.js i))=Qe1 s x i from rfl] at h;exact h _ ⟨.grow,12,by rw [Jf1];rfl⟩)) ?_
   simp only [push_cast,simprocAttr,U9]
   refine AW.wd [[.val,.val,.rd 0,.rd 0,.ext,.val,.rd 0,.val,.rd 0,.ext,.val,.ext,.wr,.val]] 4 U9 (ca2 (Ka5 stillQ.1 (Qe1 s x i)) Jm1) ?_
   have hwi:IntKind.i64.wrap ((i:Int)+1)=(i:Int)+1:=wi (by omega)
   refine ⟨i+1,by omega,by omega,?_⟩
   try simp only [Jb3,Ja4,push_cast,simprocAttr,U9,hwi,hap]
   exact Weak.to (extra:=_) (by simp only [KS,simprocAttr,hwi,hap]) (by first|rfl|(simp only [List.append_assoc,List.cons_append,List.nil_append];rfl)) (by first|rfl|(simp [AV.below,CV.below];done)|(simp [AV.below,CV.below];omega)) (by exact MWf.app (hwf.grow (by simp)) (Ja0 (hR.bel _ (by simp)) (Ja0 (Jb4 _ (fun _=>rfl) _) Jb1)))
  obtain ⟨p,hp⟩:∃ p:Nat,s.jp i=(p:Int):=⟨(s.jp i).toNat,by omega⟩
  have hpi:p<i:=by omega
  have hon:(onQ s (jtQ s x) (s.jp i) i)=(jtQ s x p):=by unfold onQ;rw [if_pos ⟨e1,e2⟩,hp];rfl
  have hap:=Qy0 s x i (Jk4 (jtQ s x p).1 (Qe1 s x i)) (Jd2 (jtQ s x p).2 (s.js i)) (Vy4 s x i _ hon)
  rw [hp] at e1 e2
  have p3:p*13+13<=i*13:=by omega
  have gp:=Jb5 (w:=13) (F:=joF s x) (fun _=>rfl) hpi
  have gq:joF s x p=[.int .i64 ((jtQ s x p).1 0 0),.int .i64 ((jtQ s x p).1 0 1),.int .i64 ((jtQ s x p).1 0 2),.int .i64 ((jtQ s x p).1 1 0),.int .i64 ((jtQ s x p).1 1 1),.int .i64 ((jtQ s x p).1 1 2),.int .i64 ((jtQ s x p).1 2 0),.int .i64 ((jtQ s x p).1 2 1),.int .i64 ((jtQ s x p).1 2 2),.int .i64 ((jtQ s x p).1 3 0),.int .i64 ((jtQ s x p).1 3 1),.int .i64 ((jtQ s x p).1 3 2),.int .i64 (jtQ s x p).2]:=rfl
  have U10:=ca4 U7 hp e1 (ca4 e2 p3 gp (ca2 gq hpi))
  refine AW.w 5 U10 Tru ?_
  refine AW.q fun K J2=>?_
  refine AW.draw [.rd 0,.val,.rd 0,.val,.ext,.ext,.rd 0,.val,.rd 0,.val,.ext,.ext,.val,.rd 0,.ext,.ext,.ext,.fl,.wr] fol (by decide) (by kernel_rfl) ?_
  simp only [push_cast,simprocAttr,U10]
  refine DCall.z (Kc9 s R (s.jm i) x _ (hR.app _) hT) ?_
  simp only [push_cast,simprocAttr,U10]
  refine DCall.z (Qx1 _ _) ?_
  simp only [push_cast,simprocAttr,U10]
  refine DCall.z (Kc9 s R (s.jt i) x _ (hR.app _) hT) ?_
  simp only [push_cast,simprocAttr,U10]
  refine DCall.z (Ky4 _ _) ?_
  simp only [push_cast,simprocAttr,U10]
  refine DCall.z (Qc5 _ _) ?_
  simp only [push_cast,simprocAttr,U10]
  refine DExt.by (by first|rfl|exact (List.append_nil _).symm|(simp only [List.append_assoc,List.cons_append,List.nil_append];rfl)) ?_
  simp only [push_cast,simprocAttr,U10]
  refine DCall.z ((by have h:=fun M q=>Ks5 (m.length+4) 0 (Kh8 (Jh8 s (s.jm i) x)) (Js8 (Jh8 s (s.jt i) x)) (Jq3 (s.js i)) M q;rw [show Kd0 (Kh8 (Jh8 s (s.jm i) x)) (Js8 (Jh8 s (s.jt i) x)) (Jq3 (s.js i))=Qe1 s x i from rfl] at h;exact h _ ⟨.grow,12,by rw [Jf1];rfl⟩)) ?_
  simp only [push_cast,simprocAttr,U10]
  refine AW.wd [[.val,.val,.rd 0,.rd 0,.ext,.val,.rd 0,.val,.rd 0,.ext,.val,.ext,.wr,.val]] 4 U10 (ca2 (Ka5 (jtQ s x p).1 (Qe1 s x i)) Jm1) ?_
  have hwi:IntKind.i64.wrap ((i:Int)+1)=(i:Int)+1:=wi (by omega)
  refine ⟨i+1,by omega,by omega,?_⟩
  try simp only [Jb3,Ja4,push_cast,simprocAttr,U10,hwi,hap]
  exact Weak.to (extra:=_) (by simp only [KS,simprocAttr,hwi,hap]) (by first|rfl|(simp only [List.append_assoc,List.cons_append,List.nil_append];rfl)) (by first|rfl|(simp [AV.below,CV.below];done)|(simp [AV.below,CV.below];omega)) (by exact MWf.app (hwf.grow (by simp)) (Ja0 (hR.bel _ (by simp)) (Ja0 (Jb4 _ (fun _=>rfl) _) Jb1)))
 have hin:i=s.nj:=by have:=of_decide_eq_false h14;omega
 rw [hin]
 refine AW.w 4 U6 Tru ?_
 refine hQ _ _ _ ?_
 refine RetP.pick [(m.length+1,s.nj)] (by first|exact Or.inr rfl|exact Or.inl rfl) ?_ ?_ ?_ hwf ?_
 · simp only [Jd3,Ja9,Jb6,AV.tv,push_cast,simprocAttr]
   simp [Km6,Kq7,Kb1,Js3,Jh0,hlt0]
 · simp only [Jm9,push_cast,simprocAttr]
 · simp [Jc4]
 exact Ja0 (Jb4 _ (fun _=>rfl) _) Jb1
theorem Ku7 (s:SC)(R:RWs)(x q:Int)(m:Ja1)(hR:ScR 138 143 285 146 150 m s R)(h0:q<0):Ctr Tryz.prog 161 [.agg (scC s R),.one (.int .i64 q),.one (.int .i64 x)] m (.agg (spC (spQ s x q))) m:=by
 refine Ctr.en Tryz.func161 [.cell 6 290] 51 fun hwf Q hQ=>?_
 have hv:spQ s x q=stillQ:=if_pos h0
 rw [hv] at hQ
 have U1:=ca3 @Kp9 @Ke1 h0
 exact AW.f U1 Jw5
theorem Qu6 (s:SC)(R:RWs)(x:Int)(i:Nat)(m:Ja1)(hR:ScR 138 143 285 146 150 m s R)(hT:∀ i,i<s.nt->TrS s i)(hlt:i<s.nj)(hJ:JoR s i)(ih:∀ m,ScR 138 143 285 146 150 m s R->Ctr Tryz.prog 161 [.agg (scC s R),.one (.int .i64 (s.jp i)),.one (.int .i64 x)] m (.agg (spC (spQ s x (s.jp i)))) m):Ctr Tryz.prog 161 [.agg (scC s R),.one (.int .i64 ((i:Int))),.one (.int .i64 x)] m (.agg (spC (spQ s x (i:Int)))) m:=by
 refine Ctr.en Tryz.func161 [.cell 6 290] 51 fun hwf Q hQ=>?_
 obtain ⟨kj,ej,hj⟩:=hR.hj
 have lj:=Ja8 hj
 have nj:=hR.nj
 have jl:(Jb0 s.nj (jC s)).length=s.nj*4:=Ja5 (w:=4) (F:=jC s) (fun _=>rfl) _
 have c3:i*4+4<=s.nj*4:=by omega
 have ga:=Jb5 (w:=4) (F:=jC s) (fun _=>rfl) hlt
 have gk:=Qy1 s i
 have n1:¬(i:Int)<0:=by omega
 have c1:(0:Int)<=(i:Int):=by omega
 have c2:(i:Int)<(s.nj:Int):=by omega
 obtain ⟨j1,j2,j3,_⟩:=hJ
 rw [inB_iff] at j1 j2 j3
 have hv:spQ s x (i:Int)=(Jk4 (spQ s x (s.jp i)).1 (Qe1 s x i),Jd2 (spQ s x (s.jp i)).2 (s.js i)):=by
   unfold spQ
   rw [if_neg n1,Int.toNat_natCast,Qf0];unfold Qi8
   have e:onQ s (jtQ s x) (s.jp i) i=if s.jp i<0 then stillQ else jtQ s x (s.jp i).toNat:=by
     unfold onQ
     by_cases g:s.jp i<0
     · rw [if_neg (by omega),if_pos g]
     rw [if_pos ⟨by omega,by omega⟩,if_neg g]
   rw [e]
 rw [hv] at hQ
 have U2:=ca4 @Je1 @Jd8 @Je0 (ca4 @Ja6 hj (Ja3 hj) (ca4 jl @Ke1 @Kp9 (ca4 c1 c2 c3 (ca4 ga gk hlt n1))))
 refine AW.w 8 U2 (ih _ (hR.app _)) ?_
 refine AW.q fun K J0=>?_
 refine AW.draw [.rd 0,.val,.rd 0,.val,.ext,.ext,.rd 0,.val,.rd 0,.val,.ext,.ext,.val,.rd 0,.ext,.ext,.ext,.fl,.wr] fol (by decide) (by kernel_rfl) ?_
 simp only [push_cast,simprocAttr,U2]
 refine DCall.z (Qd0 s R (s.jm i) x _ (hR.app _) hT (by omega)) ?_
 simp only [push_cast,simprocAttr,U2]
 refine DCall.z (Vv6 _ _) ?_
 simp only [push_cast,simprocAttr,U2]
 refine DCall.z (Qd0 s R (s.jt i) x _ (hR.app _) hT (by omega)) ?_
 simp only [push_cast,simprocAttr,U2]
 refine DCall.z (Vf4 _ _) ?_
 simp only [push_cast,simprocAttr,U2]
 refine DCall.z (Jw5 _ _) ?_
 simp only [push_cast,simprocAttr,U2]
 refine DExt.by (by first|rfl|exact (List.append_nil _).symm|(simp only [List.append_assoc,List.cons_append,List.nil_append];rfl)) ?_
 simp only [push_cast,simprocAttr,U2]
 refine DCall.z ((by have h:=fun M q=>Qd7 (m.length+4) 0 (Kh8 (Jh8 s (s.jm i) x)) (Js8 (Jh8 s (s.jt i) x)) (Jq3 (s.js i)) M q;rw [show Kd0 (Kh8 (Jh8 s (s.jm i) x)) (Js8 (Jh8 s (s.jt i) x)) (Jq3 (s.js i))=Qe1 s x i from rfl] at h;exact h _ ⟨.grow,12,by rw [Jf1];rfl⟩)) ?_
 simp only [push_cast,simprocAttr,U2]
 exact AW.fd [[.val,.rd 0,.rd 0,.ext,.val,.rd 0,.val,.rd 0,.ext,.val,.wr]] U2 (ca2 (Ke5 (spQ s x (s.jp i)).1 (Qe1 s x i)) Kn9)
theorem Kq6 (s:SC)(R:RWs)(x:Int)(hT:∀ i,i<s.nt->TrS s i)(hJ:∀ i,i<s.nj->JoR s i):∀ (n:Nat) (q:Int),q<(n:Int)->q<(s.nj:Int)->∀ (m:Ja1),ScR 138 143 285 146 150 m s R->Ctr Tryz.prog 161 [.agg (scC s R),.one (.int .i64 q),.one (.int .i64 x)] m (.agg (spC (spQ s x q))) m
 | 0,q,h0,_,m,hR=>Ku7 s R x q m hR (by omega)
 | n+1,q,h0,h1,m,hR=>by
  by_cases g:q<0
  ·exact Ku7 s R x q m hR g
  obtain ⟨i,rfl⟩:∃ i:Nat,q=(i:Int):=⟨q.toNat,by omega⟩
  have hlt:i<s.nj:=by omega
  have jr:=hJ i hlt
  have j1:=jr.1
  rw [inB_iff] at j1
  exact Qu6 s R x i m hR hT hlt jr fun m hR=>Kq6 s R x hT hJ n (s.jp i) (by omega) (by omega) m hR
def Kz7 (s:SC)(i:Nat)(q:SQ):PL:=⟨s.xk i,s.xp i,fun j=>if s.xk i=0 then (if j=0 then Jk5 q.1 (s.xv i 0) else z0V) else Jk5 q.1 (s.xv i j),if s.xk i=0 then Jd2 (s.xr i) q.2 else 0⟩
def plC (p:PL):List CV:=.int .i64 p.kind::.int .i64 p.paint::(c3C (p.P 0)++(c3C (p.P 1)++(c3C (p.P 2)++[.int .i64 p.r])))
theorem Jk6 (p:PL):plC p=[.int .i64 p.kind,.int .i64 p.paint,.int .i64 (p.P 0 0),.int .i64 (p.P 0 1),.int .i64 (p.P 0 2),.int .i64 (p.P 1 0),.int .i64 (p.P 1 1),.int .i64 (p.P 1 2),.int .i64 (p.P 2 0),.int .i64 (p.P 2 1),.int .i64 (p.P 2 2),.int .i64 p.r]:=rfl
theorem Vw6 (s:SC)(i:Nat)(q:SQ)(h:(s.xk i ==0)=true):plC (Kz7 s i q)=[.int .i64 (s.xk i),.int .i64 (s.xp i),.int .i64 (Jk5 q.1 (s.xv i 0) 0),.int .i64 (Jk5 q.1 (s.xv i 0) 1),.int .i64 (Jk5 q.1 (s.xv i 0) 2),.int .i64 0,.int .i64 0,.int .i64 0,.int .i64 0,.int .i64 0,.int .i64 0,.int .i64 (Jd2 (s.xr i) q.2)]:=by
 have h:=eq_of_beq h
 simp [plC,Kz7,c3C,h,z0V]
theorem Vw5 (s:SC)(i:Nat)(q:SQ)(h:(s.xk i ==0)=false):plC (Kz7 s i q)=[.int .i64 (s.xk i),.int .i64 (s.xp i),.int .i64 (Jk5 q.1 (s.xv i 0) 0),.int .i64 (Jk5 q.1 (s.xv i 0) 1),.int .i64 (Jk5 q.1 (s.xv i 0) 2),.int .i64 (Jk5 q.1 (s.xv i 1) 0),.int .i64 (Jk5 q.1 (s.xv i 1) 1),.int .i64 (Jk5 q.1 (s.xv i 1) 2),.int .i64 (Jk5 q.1 (s.xv i 2) 0),.int .i64 (Jk5 q.1 (s.xv i 2) 1),.int .i64 (Jk5 q.1 (s.xv i 2) 2),.int .i64 0]:=by
 have h:¬s.xk i=0:=by simpa using h
 simp [plC,Kz7,c3C,h]
theorem Qz1 (a b:Int)(m:Ja1)(h0:0<=a):Ctr Tryz.prog 220 [.agg [.int .i64 a,.int .i64 b]] m (.one (.bool true)) m:=by
 have U1:=ca3 h0 @decide_true @decide_false
 exact Ctr.f Tryz.func220 [.tmp 2] 6 U1 Tru
theorem Qz2 (a b:Int)(m:Ja1)(h0:¬0<=a):Ctr Tryz.prog 220 [.agg [.int .i64 a,.int .i64 b]] m (.one (.bool false)) m:=by
 have U2:=ca3 h0 @decide_true @decide_false
 exact Ctr.f Tryz.func220 [.tmp 2] 6 U2 Tru
theorem Vr1 (s:SC)(i:Nat)(m:Ja1)(hk:(s.xk i ==0)=true):Ctr Tryz.prog 221 [.agg (xC s i)] m (.one (.sl m.length 0 0 1)) (m++[⟨.grow,59,0,3,c3C (s.xv i 0)⟩]):=by
 refine Ctr.en Tryz.func221 [.tmp 2] 16 fun hwf Q hQ=>?_
 have gx:=Ka2 s i
 have hlt0:∀ k,¬m.length+k<m.length:=fun k=>by omega
 have U3:=ca3 gx hk @Ja6
 refine AW.w 6 U3 Tru fun K J0=>?_
 refine hQ _ _ _ ?_
 refine RetP.pick [(m.length+1,0)] (by first|exact Or.inr rfl|exact Or.inl rfl) ?_ ?_ ?_ hwf ?_
 · simp only [Jd3,Ja9,Jb6,AV.tv,push_cast,simprocAttr]
   simp [Km6,Kq7,Kb1,Js3,Jh0,hlt0]
 · (simp only [Jm9,push_cast,simprocAttr])<;>rfl
 · simp [Jc4]
 exact Qb3 rfl
theorem Vr0 (s:SC)(i:Nat)(m:Ja1)(hk:(s.xk i ==0)=false):Ctr Tryz.prog 221 [.agg (xC s i)] m (.one (.sl m.length 0 0 3)) (m++[⟨.grow,59,0,3,c3C (s.xv i 0)++(c3C (s.xv i 1)++c3C (s.xv i 2))⟩]):=by
 refine Ctr.en Tryz.func221 [.tmp 2] 16 fun hwf Q hQ=>?_
 have gx:=Ka2 s i
 have hlt0:∀ k,¬m.length+k<m.length:=fun k=>by omega
 have U4:=ca3 gx hk @Ja6
 refine AW.w 8 U4 Tru ?_
 refine hQ _ _ _ ?_
 refine RetP.pick [(m.length+1,0)] (by first|exact Or.inr rfl|exact Or.inl rfl) ?_ ?_ ?_ hwf ?_
 · simp only [Jd3,Ja9,Jb6,AV.tv,push_cast,simprocAttr]
   simp [Km6,Kq7,Kb1,Js3,Jh0,hlt0]
 · (simp only [Jm9,push_cast,simprocAttr])<;>rfl
 · simp [Jc4]
 exact Qb3 rfl
theorem Qv7 (s:SC)(i:Nat)(x:Int)(p:Nat)(hp:p<s.nj)(h0:s.xj i=(p:Int))(jb jv:Nat)(m:Ja1)(hb:∃ k e,m[jb]?=some ⟨k,344,jv,e,Jb0 s.nj (joF s x)⟩)  (hk:(s.xk i ==0)=true):Ctr Tryz.prog 170 [.agg (xC s i),.one (.sl jb jv 0 s.nj)] m (.agg (plC (Kz7 s i (jtQ s x p)))) m:=by
 refine Ctr.en Tryz.func170 [.cell 4 84] 59 fun hwf Q hQ=>?_
 have gx:=Ka2 s i
 rw [Vw6 s i _ hk] at hQ
 obtain ⟨k0,e0,hb⟩:=hb
 have lb:=Ja8 hb
 have jl:(Jb0 s.nj (joF s x)).length=s.nj*13:=Ja5 (w:=13) (F:=joF s x) (fun _=>rfl) _
 have c1:(0:Int)<=(p:Int):=by omega
 have c2:(p:Int)<(s.nj:Int):=by omega
 have hh:0<=s.xj i:=by omega
 have p3:p*13+13<=s.nj*13:=by omega
 have gp:=Jb5 (w:=13) (F:=joF s x) (fun _=>rfl) hp
 have gq:joF s x p=[.int .i64 ((jtQ s x p).1 0 0),.int .i64 ((jtQ s x p).1 0 1),.int .i64 ((jtQ s x p).1 0 2),.int .i64 ((jtQ s x p).1 1 0),.int .i64 ((jtQ s x p).1 1 1),.int .i64 ((jtQ s x p).1 1 2),.int .i64 ((jtQ s x p).1 2 0),.int .i64 ((jtQ s x p).1 2 1),.int .i64 ((jtQ s x p).1 2 2),.int .i64 ((jtQ s x p).1 3 0),.int .i64 ((jtQ s x p).1 3 1),.int .i64 ((jtQ s x p).1 3 2),.int .i64 (jtQ s x p).2]:=rfl
 have U5:=ca4 gx hk @Kp9 (ca4 @Ke1 @Ja6 hb (ca4 (Ja3 hb) jl h0 (ca4 c1 c2 p3 (ca3 gp gq hp))))
 refine AW.w 8 U5 (ca2 Kg2 (Qz1 _ _ _ c1)) ?_
 refine AW.q fun K J0=>?_
 have q_1:=Vr1 s i
 rw [gx,h0] at q_1
 refine AW.w 2 U5 (q_1 _ hk) ?_
 refine AW.r 2 ?_
 exact AW.f U5 (ca2 (Jr6 (jtQ s x p).1 (s.xv i 0)) Jm1)
theorem Qv8 (s:SC)(i:Nat)(x:Int)(jb jv:Nat)(m:Ja1)(hb:∃ k e,m[jb]?=some ⟨k,344,jv,e,Jb0 s.nj (joF s x)⟩)(h0:¬0<=s.xj i)(hk:(s.xk i ==0)=true):Ctr Tryz.prog 170 [.agg (xC s i),.one (.sl jb jv 0 s.nj)] m (.agg (plC (Kz7 s i stillQ))) m:=by
 refine Ctr.en Tryz.func170 [.cell 4 84] 59 fun hwf Q hQ=>?_
 have gx:=Ka2 s i
 rw [Vw6 s i _ hk] at hQ
 obtain ⟨k0,e0,hb⟩:=hb
 have lb:=Ja8 hb
 have jl:(Jb0 s.nj (joF s x)).length=s.nj*13:=Ja5 (w:=13) (F:=joF s x) (fun _=>rfl) _
 have U6:=ca4 gx hk @Kp9 (ca4 @Ke1 @Ja6 hb (ca3 (Ja3 hb) jl h0))
 refine AW.w 11 U6 (ca3 Kg2 (Qz2 _ _ _ h0) (Vr1 s i _ hk)) fun K J0=>?_
 refine AW.r 2 ?_
 exact AW.f U6 (ca2 (Jr6 stillQ.1 (s.xv i 0)) Jm1)
theorem Qv5 (s:SC)(i:Nat)(x:Int)(p:Nat)(hp:p<s.nj)(h0:s.xj i=(p:Int))(jb jv:Nat)(m:Ja1)(hb:∃ k e,m[jb]?=some ⟨k,344,jv,e,Jb0 s.nj (joF s x)⟩)  (hk:(s.xk i ==0)=false):Ctr Tryz.prog 170 [.agg (xC s i),.one (.sl jb jv 0 s.nj)] m (.agg (plC (Kz7 s i (jtQ s x p)))) m:=by
 refine Ctr.en Tryz.func170 [.cell 4 84] 59 fun hwf Q hQ=>?_
 have gx:=Ka2 s i
 rw [Vw5 s i _ hk] at hQ
 obtain ⟨k0,e0,hb⟩:=hb
 have lb:=Ja8 hb
 have jl:(Jb0 s.nj (joF s x)).length=s.nj*13:=Ja5 (w:=13) (F:=joF s x) (fun _=>rfl) _
 have c1:(0:Int)<=(p:Int):=by omega
 have c2:(p:Int)<(s.nj:Int):=by omega
 have hh:0<=s.xj i:=by omega
 have p3:p*13+13<=s.nj*13:=by omega
 have gp:=Jb5 (w:=13) (F:=joF s x) (fun _=>rfl) hp
 have gq:joF s x p=[.int .i64 ((jtQ s x p).1 0 0),.int .i64 ((jtQ s x p).1 0 1),.int .i64 ((jtQ s x p).1 0 2),.int .i64 ((jtQ s x p).1 1 0),.int .i64 ((jtQ s x p).1 1 1),.int .i64 ((jtQ s x p).1 1 2),.int .i64 ((jtQ s x p).1 2 0),.int .i64 ((jtQ s x p).1 2 1),.int .i64 ((jtQ s x p).1 2 2),.int .i64 ((jtQ s x p).1 3 0),.int .i64 ((jtQ s x p).1 3 1),.int .i64 ((jtQ s x p).1 3 2),.int .i64 (jtQ s x p).2]:=rfl
 have U7:=ca4 gx hk @Kp9 (ca4 @Ke1 @Ja6 hb (ca4 (Ja3 hb) jl h0 (ca4 c1 c2 p3 (ca3 gp gq hp))))
 refine AW.w 8 U7 (ca2 Kg2 (Qz1 _ _ _ c1)) ?_
 refine AW.q fun K J0=>?_
 have q_2:=Vr0 s i
 rw [gx,h0] at q_2
 refine AW.w 2 U7 (q_2 _ hk) ?_
 refine AW.r 4 ?_
 exact AW.f U7 (ca3 (Jr6 (jtQ s x p).1 (s.xv i 0)) (Jr6 (jtQ s x p).1 (s.xv i 1)) (Jr6 (jtQ s x p).1 (s.xv i 2)))
theorem Qv6 (s:SC)(i:Nat)(x:Int)(jb jv:Nat)(m:Ja1)(hb:∃ k e,m[jb]?=some ⟨k,344,jv,e,Jb0 s.nj (joF s x)⟩)(h0:¬0<=s.xj i)(hk:(s.xk i ==0)=false):Ctr Tryz.prog 170 [.agg (xC s i),.one (.sl jb jv 0 s.nj)] m (.agg (plC (Kz7 s i stillQ))) m:=by
 refine Ctr.en Tryz.func170 [.cell 4 84] 59 fun hwf Q hQ=>?_
 have gx:=Ka2 s i
 rw [Vw5 s i _ hk] at hQ
 obtain ⟨k0,e0,hb⟩:=hb
 have lb:=Ja8 hb
 have jl:(Jb0 s.nj (joF s x)).length=s.nj*13:=Ja5 (w:=13) (F:=joF s x) (fun _=>rfl) _
 have U8:=ca4 gx hk @Kp9 (ca4 @Ke1 @Ja6 hb (ca3 (Ja3 hb) jl h0))
 refine AW.w 11 U8 (ca3 Kg2 (Qz2 _ _ _ h0) (Vr0 s i _ hk)) fun K J0=>?_
 refine AW.r 4 ?_
 exact AW.f U8 (ca3 (Jr6 stillQ.1 (s.xv i 0)) (Jr6 stillQ.1 (s.xv i 1)) (Jr6 stillQ.1 (s.xv i 2)))
theorem Qu2 (s:SC)(R:RWs)(x:Int)(i:Nat)(m:Ja1)(hR:ScR 138 143 285 146 150 m s R)(hT:∀ i,i<s.nt->TrS s i)(hJ:∀ i,i<s.nj->JoR s i)(hlt:i<s.nx)(hxj:s.xj i<(s.nj:Int))(hk:(s.xk i ==0)=true):Ctr Tryz.prog 77 [.agg (scC s R),.one (.int .i64 ((i:Int))),.one (.int .i64 x)] m (.agg (plC (Kz7 s i (spQ s x (s.xj i))))) m:=by
 refine Ctr.en Tryz.func77 [.cell 6 75] 59 fun hwf Q hQ=>?_
 obtain ⟨kx,ex,hx⟩:=hR.hx
 have lx:=Ja8 hx
 have nx:=hR.nx
 have xl:(Jb0 s.nx (xC s)).length=s.nx*13:=Ja5 (w:=13) (F:=xC s) (fun _=>rfl) _
 have c3:i*13+13<=s.nx*13:=by omega
 have ga:=Jb5 (w:=13) (F:=xC s) (fun _=>rfl) hlt
 have gx:=Ka2 s i
 have c1:(0:Int)<=(i:Int):=by omega
 have c2:(i:Int)<(s.nx:Int):=by omega
 rw [Vw6 s i _ hk] at hQ
 have U9:=ca4 @Je1 @Jd8 @Je0 (ca4 @Ja6 hx (Ja3 hx) (ca4 xl c1 c2 (ca4 c3 ga gx (ca4 hlt hk @Kp9 @Ke1))))
 exact AW.f U9 (ca3 (Kq6 s R x hT hJ ((s.xj i).toNat+1) (s.xj i) (by omega) hxj _ (hR.app _)) (Jy5 (spQ s x (s.xj i)).1 (s.xv i 0)) Kn9)
theorem Qu1 (s:SC)(R:RWs)(x:Int)(i:Nat)(m:Ja1)(hR:ScR 138 143 285 146 150 m s R)(hT:∀ i,i<s.nt->TrS s i)(hJ:∀ i,i<s.nj->JoR s i)(hlt:i<s.nx)(hxj:s.xj i<(s.nj:Int))(hk:(s.xk i ==0)=false):Ctr Tryz.prog 77 [.agg (scC s R),.one (.int .i64 ((i:Int))),.one (.int .i64 x)] m (.agg (plC (Kz7 s i (spQ s x (s.xj i))))) m:=by
 refine Ctr.en Tryz.func77 [.cell 6 75] 59 fun hwf Q hQ=>?_
 obtain ⟨kx,ex,hx⟩:=hR.hx
 have lx:=Ja8 hx
 have nx:=hR.nx
 have xl:(Jb0 s.nx (xC s)).length=s.nx*13:=Ja5 (w:=13) (F:=xC s) (fun _=>rfl) _
 have c3:i*13+13<=s.nx*13:=by omega
 have ga:=Jb5 (w:=13) (F:=xC s) (fun _=>rfl) hlt
 have gx:=Ka2 s i
 have c1:(0:Int)<=(i:Int):=by omega
 have c2:(i:Int)<(s.nx:Int):=by omega
 rw [Vw5 s i _ hk] at hQ
 have U10:=ca4 @Je1 @Jd8 @Je0 (ca4 @Ja6 hx (Ja3 hx) (ca4 xl c1 c2 (ca4 c3 ga gx (ca4 hlt hk @Kp9 @Ke1))))
 refine AW.w 12 U10 (Kq6 s R x hT hJ ((s.xj i).toNat+1) (s.xj i) (by omega) hxj _ (hR.app _)) fun K J0=>?_
 refine AW.r 4 ?_
 exact AW.fd [[.val,.val,.rd 0,.val,.val,.val,.rd 0,.ext,.val,.val,.wr],[.val,.val,.rd 0,.val,.val,.val,.rd 0,.ext,.val,.val,.wr],[.val,.val,.rd 0,.val,.val,.val,.rd 0,.ext,.val,.val,.wr]] U10 (ca3 (Jy5 (spQ s x (s.xj i)).1 (s.xv i 0)) (Jy5 (spQ s x (s.xj i)).1 (s.xv i 1)) (Jy5 (spQ s x (s.xj i)).1 (s.xv i 2)))
def plS (s:SC)(x:Int)(i:Nat):PL:=Kz7 s i (spQ s x (s.xj i))
def plF (s:SC)(x:Int)(i:Nat):List CV:=plC (plS s x i)
theorem Vw3 (s:SC)(i:Nat)(x:Int)(jb jv:Nat)(m:Ja1)(hb:∃ k e,m[jb]?=some ⟨k,344,jv,e,Jb0 s.nj (joF s x)⟩)(hx:-1<=s.xj i/\s.xj i<(s.nj:Int)):Ctr Tryz.prog 170 [.agg (xC s i),.one (.sl jb jv 0 s.nj)] m (.agg (plC (plS s x i))) m:=by
 cases hk:(s.xk i ==0)
 ·by_cases h0:0<=s.xj i
  ·obtain ⟨p,hp⟩:∃ p:Nat,s.xj i=(p:Int):=⟨(s.xj i).toNat,by omega⟩
   have e:plS s x i=Kz7 s i (jtQ s x p):=by unfold plS spQ;rw [if_neg (by omega),hp];rfl
   rw [e];exact Qv5 s i x p (by omega) hp jb jv m hb hk
  have e:plS s x i=Kz7 s i stillQ:=by unfold plS spQ;rw [if_pos (by omega)]
  rw [e];exact Qv6 s i x jb jv m hb h0 hk
 by_cases h0:0<=s.xj i
 ·obtain ⟨p,hp⟩:∃ p:Nat,s.xj i=(p:Int):=⟨(s.xj i).toNat,by omega⟩
  have e:plS s x i=Kz7 s i (jtQ s x p):=by unfold plS spQ;rw [if_neg (by omega),hp];rfl
  rw [e];exact Qv7 s i x p (by omega) hp jb jv m hb hk
 have e:plS s x i=Kz7 s i stillQ:=by unfold plS spQ;rw [if_pos (by omega)]
 rw [e];exact Qv8 s i x jb jv m hb h0 hk
theorem Qd1 (s:SC)(R:RWs)(x:Int)(i:Nat)(m:Ja1)(hR:ScR 138 143 285 146 150 m s R)(hT:∀ i,i<s.nt->TrS s i)(hJ:∀ i,i<s.nj->JoR s i)(hlt:i<s.nx)(hx:-1<=s.xj i/\s.xj i<(s.nj:Int)):Ctr Tryz.prog 77 [.agg (scC s R),.one (.int .i64 ((i:Int))),.one (.int .i64 x)] m (.agg (plC (plS s x i))) m:=by
 cases hk:(s.xk i ==0)
 ·exact Qu1 s R x i m hR hT hJ hlt hx.2 hk
 exact Qu2 s R x i m hR hT hJ hlt hx.2 hk
theorem Jv4 (p:PL):plC p=(.int .i64 p.kind::.int .i64 p.paint::(c3C (p.P 0)++(c3C (p.P 1)++(c3C (p.P 2)++[.int .i64 p.r])))):=rfl
theorem Qc6 (s:SC)(R:RWs)(x:Int)(m:Ja1)(hR:ScR 140 119 223 148 155 m s R)(hT:∀ i,i<s.nt->TrS s i)(hX:∀ i,i<s.nx->-1<=s.xj i/\s.xj i<(s.nj:Int))(hn:s.nj<=1000000)(hnx:s.nx<=1000000):Ctr Tryz.prog 84 [.agg (scC s R),.one (.int .i64 x)] m (.one (.sl m.length 0 0 s.nx)) (m++[⟨.grow,84,0,12,Jb0 (s.nx) (plF s x)⟩]):=by
 refine Ctr.en Tryz.func84 [.tmp 4] 27 fun hwf Q hQ=>?_
 obtain ⟨kx,ex,hx⟩:=hR.hx
 have lx:=Ja8 hx
 have nx:=hR.nx
 have xl:(Jb0 s.nx (xC s)).length=s.nx*13:=Ja5 (w:=13) (F:=xC s) (fun _=>rfl) _
 have hlt0:∀ k,¬m.length+k<m.length:=fun k=>by omega
 have U1:=ca4 @Je1 @Jd8 @Je0 (ca4 @Ja6 hx (Ja3 hx) xl)
 refine AW.w 6 U1 (Vi4 s R x _ (hR.app _) hT hn) fun K J0=>?_
 refine AW.nilTm 84 12 6 rfl ?_
 try simp only [push_cast,simprocAttr,U1]
 refine AW.loopK [5,13,14] (fun i=>i<=s.nx) (fun i=>[(6,.one (.sl (m.length+2) i 0 i)),(15,.one (.int .i64 (i:Int)))]) (fun i=>[(m.length+2,⟨.grow,84,i,12,Jb0 i (plF s x)⟩)]) (fun i=>s.nx - i) 0 (by omega) ?_ ?_ fun i hi2=>?_
 · first|rfl|(simp only [KS,simprocAttr,Jb0,Int.natCast_zero]<;>repeat' (first|rfl|apply And.intro))
 · (simp only [Ja4,push_cast,simprocAttr,Jb0])<;>rfl
 try simp only [Jb3,Ja4,push_cast,simprocAttr,U1]
 refine AW.w 2 U1 Tru fun K J1=>?_
 refine AW.cond rfl (fun h16=>?_) (fun h16=>?_)
 ·have hlt:i<s.nx:=by have:=of_decide_eq_true h16;omega
  have c1:(0:Int)<=(i:Int):=by omega
  have c2:(i:Int)<(s.nx:Int):=by omega
  have c3:i*13+13<=s.nx*13:=by omega
  have ga:=Jb5 (w:=13) (F:=xC s) (fun _=>rfl) hlt
  have gx:=Ka2 s i
  have q1:i<=140737488355327:=by omega
  have q2:(i+1)*96<=140737488355328:=by omega
  have gli:(Jb0 i (plF s x)).length=i*12:=Ja5 (w:=12) (F:=plF s x) (fun _=>rfl) i
  have hap:Jb0 i (plF s x)++[.int .i64 (plS s x i).kind,.int .i64 (plS s x i).paint,.int .i64 ((plS s x i).P 0 0),.int .i64 ((plS s x i).P 0 1),.int .i64 ((plS s x i).P 0 2),.int .i64 ((plS s x i).P 1 0),.int .i64 ((plS s x i).P 1 1),.int .i64 ((plS s x i).P 1 2),.int .i64 ((plS s x i).P 2 0),.int .i64 ((plS s x i).P 2 1),.int .i64 ((plS s x i).P 2 2),.int .i64 (plS s x i).r]=Jb0 (i+1) (plF s x):=rfl
  refine AW.w 4 Tru Tru fun K J1=>?_
  have U2:=ca4 U1 c1 c2 (ca4 c3 ga gx (ca4 q1 q2 gli (ca3 hlt @Jv4 @Ja6)))
  refine AW.c 1 U2 Tru ?_
  refine AW.rg ?_
  simp only [push_cast,simprocAttr,U2]
  refine CThen.by ((by have h:=Vw3 s i x (m.length+1) 0;rw [gx] at h;exact h _ ⟨.grow,13,by rw [Jf1];rfl⟩ (hX i hlt))) ?_
  simp only [push_cast,simprocAttr,U2]
  refine AW.w 2 U2 Tru ?_
  have hwi:IntKind.i64.wrap ((i:Int)+1)=(i:Int)+1:=wi (by omega)
  refine ⟨i+1,by omega,by omega,?_⟩
  try simp only [Jb3,Ja4,push_cast,simprocAttr,U2,hwi,hap]
  exact Weak.to (extra:=_) (by simp only [KS,simprocAttr,hwi,hap]) (by first|rfl|(simp only [List.append_assoc,List.cons_append,List.nil_append];rfl)) (by first|rfl|(simp [AV.below,CV.below];done)|(simp [AV.below,CV.below];omega)) (by exact MWf.app (hwf.grow (by simp)) (Ja0 (hR.bel _ (by simp)) (Ja0 (Jb4 _ (fun _=>rfl) _) (Ja0 (Jb4 _ (fun _=>rfl) _) Jb1))))
 have hin:i=s.nx:=by have:=of_decide_eq_false h16;omega
 rw [hin]
 refine AW.w 4 U1 Tru ?_
 refine hQ _ _ _ ?_
 refine RetP.pick [(m.length+2,s.nx)] (by first|exact Or.inr rfl|exact Or.inl rfl) ?_ ?_ ?_ hwf ?_
 · simp only [Jd3,Ja9,Jb6,AV.tv,push_cast,simprocAttr]
   simp [Km6,Kq7,Kb1,Js3,Jh0,hlt0]
 · simp only [Jm9,push_cast,simprocAttr]
 · simp [Jc4]
 exact Ja0 (Jb4 _ (fun _=>rfl) _) Jb1
def mvS (s:SC)(f:Int)(i:Nat):MV:=⟨plS s (f*65536) i,plS s (f*65536+s.sh) i⟩
def mvC (m:MV):List CV:=plC m.A++plC m.B
def mvF (s:SC)(f:Int)(i:Nat):List CV:=mvC (mvS s f i)
theorem Qe2 (s:SC)(f:Int)(m:Ja1)(hf:0<=f/\f<=1000000):Ctr Tryz.prog 40 [.agg (hdC s),.one (.int .i64 f)] m (.one (.int .i64 (f*65536))) m:=by
 have w1:IntKind.i64.wrap (f*65536)=f*65536:=wi (by omega)
 have U3:=ca3 @Jd8 @Ja6 w1
 exact Ctr.f Tryz.func40 [.tmp 4] 7 U3 Tru
theorem Qs3 (s:SC)(f:Int)(m:Ja1)(hf:0<=f/\f<=1000000)(hs:0<=s.sh/\s.sh<=65536):Ctr Tryz.prog 41 [.agg (hdC s),.one (.int .i64 f)] m (.one (.int .i64 (f*65536+s.sh))) m:=by
 refine Ctr.en Tryz.func41 [.tmp 4] 11 fun hwf Q hQ=>?_
 have hop:=Qe2 s f
 have w1:IntKind.i64.wrap (f*65536)=f*65536:=wi (by omega)
 have w2:IntKind.i64.wrap (f*65536+s.sh)=f*65536+s.sh:=wi (by omega)
 have U4:=ca4 @Jd8 @Ja6 w1 w2
 refine AW.c 1 U4 Tru ?_
 have q_1:=hop
 unfold hdC at q_1
 exact AW.fd [[.rd 0,.val,.ext,.val,.rd 0,.val,.val]] U4 (q_1 _ hf)
theorem Qz3 (s:SC)(R:RWs)(f:Int)(m:Ja1)(hR:ScR 140 119 223 148 155 m s R)(hT:∀ i,i<s.nt->TrS s i)(hX:∀ i,i<s.nx->-1<=s.xj i/\s.xj i<(s.nj:Int))(hf:0<=f/\f<=1000000)(hs:0<=s.sh/\s.sh<=65536)(hn:s.nj<=1000000)(hnx:s.nx<=1000000):Ctr Tryz.prog 37 [.agg (scC s R),.one (.int .i64 f)] m (.one (.sl m.length 0 0 s.nx)) (m++[⟨.grow,204,0,24,Jb0 (s.nx) (mvF s f)⟩]):=by
 refine Ctr.en Tryz.func37 [.tmp 4] 40 fun hwf Q hQ=>?_
 have hlt0:∀ k,¬m.length+k<m.length:=fun k=>by omega
 have l1:(Jb0 s.nx (plF s (f*65536))).length=s.nx*12:=Ja5 (w:=12) (F:=plF s (f*65536)) (fun _=>rfl) _
 have l2:(Jb0 s.nx (plF s (f*65536+s.sh))).length=s.nx*12:=Ja5 (w:=12) (F:=plF s (f*65536+s.sh)) (fun _=>rfl) _
 have U1:=ca4 @Je1 @Jd8 @Je0 (ca3 @Ja6 l1 l2)
 refine AW.c 1 U1 Tru ?_
 have q_1:=Qe2 s f
 unfold hdC c3C at q_1
 have q_2:=Qs3 s f
 unfold hdC c3C at q_2
 refine AW.wd [[.rd 0,.val,.rd 0,.val,.ext,.ext,.rd 0,.val,.rd 0,.val,.ext,.ext,.val,.val]] 5 U1 (ca4 (q_1 _ hf) (Qc6 s R (f*65536) _ (hR.app _) hT hX hn hnx) (q_2 _ hf hs) (Qc6 s R (f*65536+s.sh) _ (hR.app _) hT hX hn hnx)) fun K J0=>?_
 refine AW.nilTm 204 24 7 rfl ?_
 try simp only [push_cast,simprocAttr,U1]
 refine AW.loopK [5,6,22] (fun i=>i<=s.nx) (fun i=>[(7,.one (.sl (m.length+3) i 0 i)),(23,.one (.int .i64 (i:Int)))]) (fun i=>[(m.length+3,⟨.grow,204,i,24,Jb0 i (mvF s f)⟩)]) (fun i=>s.nx - i) 0 (by omega) ?_ ?_ fun i hi2=>?_
 · first|rfl|(simp only [KS,simprocAttr,Jb0,Int.natCast_zero]<;>repeat' (first|rfl|apply And.intro))
 · (simp only [Ja4,push_cast,simprocAttr,Jb0])<;>rfl
 try simp only [Jb3,Ja4,push_cast,simprocAttr,U1]
 refine AW.w 2 U1 Tru fun K J1=>?_
 refine AW.cond rfl (fun h24=>?_) (fun h24=>?_)
 ·have hlt:i<s.nx:=by have:=of_decide_eq_true h24;omega
  have c1:(0:Int)<=(i:Int):=by omega
  have c2:(i:Int)<(s.nx:Int):=by omega
  have c1:(0:Int)<=(i:Int):=by omega
  have c2:(i:Int)<(s.nx:Int):=by omega
  have c3:i*12+12<=s.nx*12:=by omega
  have ga1:=Jb5 (w:=12) (F:=plF s (f*65536)) (fun _=>rfl) hlt
  have gx1:plF s (f*65536) i=[.int .i64 (plS s (f*65536) i).kind,.int .i64 (plS s (f*65536) i).paint,.int .i64 ((plS s (f*65536) i).P 0 0),.int .i64 ((plS s (f*65536) i).P 0 1),.int .i64 ((plS s (f*65536) i).P 0 2),.int .i64 ((plS s (f*65536) i).P 1 0),.int .i64 ((plS s (f*65536) i).P 1 1),.int .i64 ((plS s (f*65536) i).P 1 2),.int .i64 ((plS s (f*65536) i).P 2 0),.int .i64 ((plS s (f*65536) i).P 2 1),.int .i64 ((plS s (f*65536) i).P 2 2),.int .i64 (plS s (f*65536) i).r]:=rfl
  have ga2:=Jb5 (w:=12) (F:=plF s (f*65536+s.sh)) (fun _=>rfl) hlt
  have gx2:plF s (f*65536+s.sh) i=[.int .i64 (plS s (f*65536+s.sh) i).kind,.int .i64 (plS s (f*65536+s.sh) i).paint,.int .i64 ((plS s (f*65536+s.sh) i).P 0 0),.int .i64 ((plS s (f*65536+s.sh) i).P 0 1),.int .i64 ((plS s (f*65536+s.sh) i).P 0 2),.int .i64 ((plS s (f*65536+s.sh) i).P 1 0),.int .i64 ((plS s (f*65536+s.sh) i).P 1 1),.int .i64 ((plS s (f*65536+s.sh) i).P 1 2),.int .i64 ((plS s (f*65536+s.sh) i).P 2 0),.int .i64 ((plS s (f*65536+s.sh) i).P 2 1),.int .i64 ((plS s (f*65536+s.sh) i).P 2 2),.int .i64 (plS s (f*65536+s.sh) i).r]:=rfl
  have q1:i<=140737488355327:=by omega
  have q2:(i+1)*192<=140737488355328:=by omega
  have gli:(Jb0 i (mvF s f)).length=i*24:=Ja5 (w:=24) (F:=mvF s f) (fun _=>rfl) i
  have hap:Jb0 i (mvF s f)++[.int .i64 (plS s (f*65536) i).kind,.int .i64 (plS s (f*65536) i).paint,.int .i64 ((plS s (f*65536) i).P 0 0),.int .i64 ((plS s (f*65536) i).P 0 1),.int .i64 ((plS s (f*65536) i).P 0 2),.int .i64 ((plS s (f*65536) i).P 1 0),.int .i64 ((plS s (f*65536) i).P 1 1),.int .i64 ((plS s (f*65536) i).P 1 2),.int .i64 ((plS s (f*65536) i).P 2 0),.int .i64 ((plS s (f*65536) i).P 2 1),.int .i64 ((plS s (f*65536) i).P 2 2),.int .i64 (plS s (f*65536) i).r,.int .i64 (plS s (f*65536+s.sh) i).kind,.int .i64 (plS s (f*65536+s.sh) i).paint,.int .i64 ((plS s (f*65536+s.sh) i).P 0 0),.int .i64 ((plS s (f*65536+s.sh) i).P 0 1),.int .i64 ((plS s (f*65536+s.sh) i).P 0 2),.int .i64 ((plS s (f*65536+s.sh) i).P 1 0),.int .i64 ((plS s (f*65536+s.sh) i).P 1 1),.int .i64 ((plS s (f*65536+s.sh) i).P 1 2),.int .i64 ((plS s (f*65536+s.sh) i).P 2 0),.int .i64 ((plS s (f*65536+s.sh) i).P 2 1),.int .i64 ((plS s (f*65536+s.sh) i).P 2 2),.int .i64 (plS s (f*65536+s.sh) i).r]=Jb0 (i+1) (mvF s f):=rfl
  refine AW.w 4 Tru Tru fun K J1=>?_
  have U2:=ca4 U1 c1 c2 (ca4 c3 ga1 ga2 (ca4 gx1 gx2 q1 (ca3 q2 gli hlt)))
  refine AW.wd [[.val,.val,.val,.val,.rd 0,.val,.val,.val,.rd 0,.val,.ext,.wr,.val]] 4 U2 Tru ?_
  have hwi:IntKind.i64.wrap ((i:Int)+1)=(i:Int)+1:=wi (by omega)
  refine ⟨i+1,by omega,by omega,?_⟩
  try simp only [Jb3,Ja4,push_cast,simprocAttr,U2,hwi,hap]
  exact Weak.to (extra:=_) (by simp only [KS,simprocAttr,hwi,hap]) (by first|rfl|(simp only [List.append_assoc,List.cons_append,List.nil_append];rfl)) (by first|rfl|(simp [AV.below,CV.below];done)|(simp [AV.below,CV.below];omega)) (by exact MWf.app (hwf.grow (by simp)) (Ja0 (hR.bel _ (by simp)) (Ja0 (Jb4 _ (fun _=>rfl) _) (Ja0 (Jb4 _ (fun _=>rfl) _) (Ja0 (Jb4 _ (fun _=>rfl) _) Jb1)))))
 have hin:i=s.nx:=by have:=of_decide_eq_false h24;omega
 rw [hin]
 refine AW.w 4 U1 Tru ?_
 refine hQ _ _ _ ?_
 refine RetP.pick [(m.length+3,s.nx)] (by first|exact Or.inr rfl|exact Or.inl rfl) ?_ ?_ ?_ hwf ?_
 · simp only [Jd3,Ja9,Jb6,AV.tv,push_cast,simprocAttr]
   simp [Km6,Kq7,Kb1,Js3,Jh0,hlt0]
 · simp only [Jm9,push_cast,simprocAttr]
 · simp [Jc4]
 exact Ja0 (Jb4 _ (fun _=>rfl) _) Jb1
theorem Vf8 (s:SC)(R:RWs)(f:Int)(m:Ja1)(hR:ScR 138 143 285 146 150 m s R)(hT:∀ i,i<s.nt->TrS s i)(hJ:∀ i,i<s.nj->JoR s i)(hX:∀ i,i<s.nx->-1<=s.xj i/\s.xj i<(s.nj:Int))(hf:0<=f/\f<=1000000)(hs:0<=s.sh/\s.sh<=65536)(hnx:s.nx<=1000000):Ctr Tryz.prog 20 [.agg (scC s R),.one (.int .i64 f)] m (.one (.sl m.length 0 0 s.nx)) (m++[⟨.grow,78,0,24,Jb0 (s.nx) (mvF s f)⟩]):=by
 refine Ctr.en Tryz.func20 [.tmp 4] 34 fun hwf Q hQ=>?_
 have hlt0:∀ k,¬m.length+k<m.length:=fun k=>by omega
 have w1:IntKind.i64.wrap (f*65536)=f*65536:=wi (by omega)
 have w2:IntKind.i64.wrap (f*65536+s.sh)=f*65536+s.sh:=wi (by omega)
 have U3:=ca4 @Je1 @Jd8 @Je0 (ca3 @Ja6 w1 w2)
 refine AW.w 5 U3 Tru fun K J0=>?_
 refine AW.nilTm 78 24 5 rfl ?_
 try simp only [push_cast,simprocAttr,U3]
 refine AW.loopK [1,2] (fun i=>i<=s.nx) (fun i=>[(5,.one (.sl (m.length+1) i 0 i)),(6,.one (.int .i64 (i:Int)))]) (fun i=>[(m.length+1,⟨.grow,78,i,24,Jb0 i (mvF s f)⟩)]) (fun i=>s.nx - i) 0 (by omega) ?_ ?_ fun i hi2=>?_
 · first|rfl|(simp only [KS,simprocAttr,Jb0,Int.natCast_zero]<;>repeat' (first|rfl|apply And.intro))
 · (simp only [Ja4,push_cast,simprocAttr,Jb0])<;>rfl
 try simp only [Jb3,Ja4,push_cast,simprocAttr,U3]
 refine AW.w 2 U3 Tru fun K J1=>?_
 refine AW.cond rfl (fun h12=>?_) (fun h12=>?_)
 ·have hlt:i<s.nx:=by have:=of_decide_eq_true h12;omega
  have c1:(0:Int)<=(i:Int):=by omega
  have c2:(i:Int)<(s.nx:Int):=by omega
  have q1:i<=140737488355327:=by omega
  have q2:(i+1)*192<=140737488355328:=by omega
  have gli:(Jb0 i (mvF s f)).length=i*24:=Ja5 (w:=24) (F:=mvF s f) (fun _=>rfl) i
  have hap:Jb0 i (mvF s f)++[.int .i64 (plS s (f*65536) i).kind,.int .i64 (plS s (f*65536) i).paint,.int .i64 ((plS s (f*65536) i).P 0 0),.int .i64 ((plS s (f*65536) i).P 0 1),.int .i64 ((plS s (f*65536) i).P 0 2),.int .i64 ((plS s (f*65536) i).P 1 0),.int .i64 ((plS s (f*65536) i).P 1 1),.int .i64 ((plS s (f*65536) i).P 1 2),.int .i64 ((plS s (f*65536) i).P 2 0),.int .i64 ((plS s (f*65536) i).P 2 1),.int .i64 ((plS s (f*65536) i).P 2 2),.int .i64 (plS s (f*65536) i).r,.int .i64 (plS s (f*65536+s.sh) i).kind,.int .i64 (plS s (f*65536+s.sh) i).paint,.int .i64 ((plS s (f*65536+s.sh) i).P 0 0),.int .i64 ((plS s (f*65536+s.sh) i).P 0 1),.int .i64 ((plS s (f*65536+s.sh) i).P 0 2),.int .i64 ((plS s (f*65536+s.sh) i).P 1 0),.int .i64 ((plS s (f*65536+s.sh) i).P 1 1),.int .i64 ((plS s (f*65536+s.sh) i).P 1 2),.int .i64 ((plS s (f*65536+s.sh) i).P 2 0),.int .i64 ((plS s (f*65536+s.sh) i).P 2 1),.int .i64 ((plS s (f*65536+s.sh) i).P 2 2),.int .i64 (plS s (f*65536+s.sh) i).r]=Jb0 (i+1) (mvF s f):=rfl
  refine AW.w 4 Tru Tru fun K J1=>?_
  have U4:=ca4 U3 q1 q2 (ca4 gli hlt @Jv4 @Ja6)
  refine AW.wd [[.val,.rd 0,.val,.val,.ext,.rd 0,.val,.val,.val,.val,.rd 0,.val,.ext,.val,.ext,.wr,.val]] 4 U4 (ca2 (Qd1 s R (f*65536) i _ (hR.app _) hT hJ hlt (hX i hlt)) (Qd1 s R (f*65536+s.sh) i _ (hR.app _) hT hJ hlt (hX i hlt))) ?_
  have hwi:IntKind.i64.wrap ((i:Int)+1)=(i:Int)+1:=wi (by omega)
  refine ⟨i+1,by omega,by omega,?_⟩
  try simp only [Jb3,Ja4,push_cast,simprocAttr,U4,hwi,hap]
  exact Weak.to (extra:=_) (by simp only [KS,simprocAttr,hwi,hap]) (by first|rfl|(simp only [List.append_assoc,List.cons_append,List.nil_append];rfl)) (by first|rfl|(simp [AV.below,CV.below];done)|(simp [AV.below,CV.below];omega)) (by exact MWf.app (hwf.grow (by simp)) (Ja0 (hR.bel _ (by simp)) (Ja0 (Jb4 _ (fun _=>rfl) _) Jb1)))
 have hin:i=s.nx:=by have:=of_decide_eq_false h12;omega
 rw [hin]
 refine AW.w 4 U3 Tru ?_
 refine hQ _ _ _ ?_
 refine RetP.pick [(m.length+1,s.nx)] (by first|exact Or.inr rfl|exact Or.inl rfl) ?_ ?_ ?_ hwf ?_
 · simp only [Jd3,Ja9,Jb6,AV.tv,push_cast,simprocAttr]
   simp [Km6,Kq7,Kb1,Js3,Jh0,hlt0]
 · simp only [Jm9,push_cast,simprocAttr]
 · simp [Jc4]
 exact Ja0 (Jb4 _ (fun _=>rfl) _) Jb1
theorem Kv7 (m:MV):mvC m=(plC m.A++plC m.B):=rfl
theorem Qq3 (a b:V)(t:Int):Kd4 a b t=(fun k=>Jd5 (a k) (b k) t):=rfl
theorem at_c (M:MV)(t:Int)(m:Ja1):Ctr Tryz.prog 78 [.agg (mvC M),.one (.int .i64 t)] m (.agg (plC (atM M t))) m:=by
 refine Ctr.en Tryz.func78 [.cell 4 84] 38 fun hwf Q hQ=>?_
 have hv:plC (atM M t)=[.int .i64 M.A.kind,.int .i64 M.A.paint,.int .i64 (Jd5 (M.A.P 0 0) (M.B.P 0 0) t),.int .i64 (Jd5 (M.A.P 0 1) (M.B.P 0 1) t),.int .i64 (Jd5 (M.A.P 0 2) (M.B.P 0 2) t),.int .i64 (Jd5 (M.A.P 1 0) (M.B.P 1 0) t),.int .i64 (Jd5 (M.A.P 1 1) (M.B.P 1 1) t),.int .i64 (Jd5 (M.A.P 1 2) (M.B.P 1 2) t),.int .i64 (Jd5 (M.A.P 2 0) (M.B.P 2 0) t),.int .i64 (Jd5 (M.A.P 2 1) (M.B.P 2 1) t),.int .i64 (Jd5 (M.A.P 2 2) (M.B.P 2 2) t),.int .i64 (Jd5 M.A.r M.B.r t)]:=rfl
 rw [hv] at hQ
 have U5:=ca4 @Kv7 @Jv4 @Ja6 @Qq3
 refine AW.w 5 U5 Tru fun K J0=>?_
 refine AW.r 4 ?_
 exact AW.fd [[.val,.val,.val,.val,.val,.rd 0,.val,.val,.val,.val,.rd 0,.val,.ext,.val,.val,.wr],[.val,.val,.val,.val,.val,.rd 0,.val,.val,.val,.val,.rd 0,.val,.ext,.val,.val,.wr],[.val,.val,.val,.val,.val,.rd 0,.val,.val,.val,.val,.rd 0,.val,.ext,.val,.val,.wr]] U5 (ca4 (Ke0 (M.A.P 0) (M.B.P 0) t) (Ke0 (M.A.P 1) (M.B.P 1) t) (Ke0 (M.A.P 2) (M.B.P 2) t) Vq3)
theorem Xg5 (M:MV)(t:Int)(m:Ja1):Ctr Tryz.prog 19 [.agg (mvC M),.one (.int .i64 t)] m (.agg (plC (atM M t))) m:=by
 refine Ctr.en Tryz.func19 [.cell 4 75] 38 fun hwf Q hQ=>?_
 have hv:plC (atM M t)=[.int .i64 M.A.kind,.int .i64 M.A.paint,.int .i64 (Jd5 (M.A.P 0 0) (M.B.P 0 0) t),.int .i64 (Jd5 (M.A.P 0 1) (M.B.P 0 1) t),.int .i64 (Jd5 (M.A.P 0 2) (M.B.P 0 2) t),.int .i64 (Jd5 (M.A.P 1 0) (M.B.P 1 0) t),.int .i64 (Jd5 (M.A.P 1 1) (M.B.P 1 1) t),.int .i64 (Jd5 (M.A.P 1 2) (M.B.P 1 2) t),.int .i64 (Jd5 (M.A.P 2 0) (M.B.P 2 0) t),.int .i64 (Jd5 (M.A.P 2 1) (M.B.P 2 1) t),.int .i64 (Jd5 (M.A.P 2 2) (M.B.P 2 2) t),.int .i64 (Jd5 M.A.r M.B.r t)]:=rfl
 rw [hv] at hQ
 have U6:=ca4 @Kv7 @Jv4 @Ja6 @Qq3
 refine AW.w 5 U6 Tru fun K J0=>?_
 refine AW.r 4 ?_
 exact AW.fd [[.val,.val,.val,.val,.val,.rd 0,.val,.val,.val,.val,.rd 0,.val,.ext,.val,.val,.wr],[.val,.val,.val,.val,.val,.rd 0,.val,.val,.val,.val,.rd 0,.val,.ext,.val,.val,.wr],[.val,.val,.val,.val,.val,.rd 0,.val,.val,.val,.val,.rd 0,.val,.ext,.val,.val,.wr]] U6 (ca4 (Ku6 (M.A.P 0) (M.B.P 0) t) (Ku6 (M.A.P 1) (M.B.P 1) t) (Ku6 (M.A.P 2) (M.B.P 2) t) Qu5)
theorem eye_c (s:SC)(R:RWs)(x:Int)(m:Ja1)(hR:ScR 140 119 223 148 155 m s R)(hT:∀ i,i<s.nt->TrS s i):Ctr Tryz.prog 104 [.agg (scC s R),.one (.int .i64 x)] m (.agg (c3C (Jh8 s s.ey x))) m:=by
 have U7:=ca4 @Je1 @Jd8 @Je0 @Ja6
 exact Ctr.f Tryz.func104 [.cell 4 59] 11 U7 (Kc9 s R s.ey x _ (hR.app _) hT)
theorem Xi4 (s:SC)(R:RWs)(x:Int)(m:Ja1)(hR:ScR 140 119 223 148 155 m s R)(hT:∀ i,i<s.nt->TrS s i):Ctr Tryz.prog 108 [.agg (scC s R),.one (.int .i64 x)] m (.agg (c3C (Jh8 s s.lk x))) m:=by
 have U8:=ca4 @Je1 @Jd8 @Je0 @Ja6
 exact Ctr.f Tryz.func108 [.cell 4 59] 11 U8 (Kc9 s R s.lk x _ (hR.app _) hT)
def Vp8 (a:V)(G:Nat->V):Nat->V
 | 0=>a
 | n+1=>fun k=>minI (Vp8 a G n k) (G n k)
def Vq0 (a:V)(G:Nat->V):Nat->V
 | 0=>a
 | n+1=>fun k=>maxI (Vq0 a G n k) (G n k)
def bxC (b:BX):List CV:=c3C b.lo++c3C b.hi
def prC (p:PR):List CV:=bxC p.a++bxC p.b
def vF (G:Nat->V)(j:Nat):List CV:=c3C (G j)
theorem Qq6 (G:Nat->V)(j:Nat):vF G j=[.int .i64 (G j 0),.int .i64 (G j 1),.int .i64 (G j 2)]:=rfl
theorem Vi1 (a b:Int)(m:Ja1):Ctr Tryz.prog 258 [.one (.int .i64 a),.one (.int .i64 b)] m (.one (.int .i64 (minI a b))) m:=by
 exact Ctr.f Tryz.func258 [.tmp 4] 8 Tru Tru
theorem Qx9 (a:V)(m:Ja1):Ctr Tryz.prog 232 [.agg (c3C a),.one .nils] m (.agg (c3C a)) m:=by
 refine Ctr.en Tryz.func232 [.cell 4 59] 18 fun hwf Q hQ=>?_
 refine AW.w 4 @Ja6 Tru fun K J0=>?_
 refine AW.r 1 ?_
 exact AW.f @Ja6 Tru
theorem Kr3 (a:V)(G:Nat->V)(r v o n N:Nat)(m:Ja1)(hb:∃ k ez,m[r]?=some ⟨k,59,v,ez,Jb0 N (vF G)⟩)(hN:o+n<=N)(hn:n<=1000000):Ctr Tryz.prog 232 [.agg (c3C a),.one (.sl r v (o*3) n)] m (.agg (c3C (Vp8 a (fun j=>G (o+j)) n))) m:=by
 refine Ctr.en Tryz.func232 [.cell 4 59] 18 fun hwf Q hQ=>?_
 obtain ⟨k0,ez,hb⟩:=hb
 have lb:=Ja8 hb
 have bl:(Jb0 N (vF G)).length=N*3:=Ja5 (w:=3) (F:=vF G) (fun _=>rfl) _
 have hlt0:∀ k,¬m.length+k<m.length:=fun k=>by omega
 have U1:=ca4 hb (Ja3 hb) bl @Ja6
 refine AW.w 4 U1 Tru fun K J0=>?_
 refine AW.loopK [2,4,7,8] (fun i=>i<=n) (fun i=>[(9,.one (.int .i64 (i:Int)))]) (fun i=>[(m.length,⟨.fix,59,0,0,c3C (Vp8 a (fun j=>G (o+j)) i)⟩)]) (fun i=>n - i) 0 (by omega) ?_ ?_ fun i hi2=>?_
 · first|rfl|(simp only [KS,simprocAttr,Vp8,Int.natCast_zero]<;>repeat' (first|rfl|apply And.intro))
 · (simp only [Ja4,push_cast,simprocAttr,c3C])<;>rfl
 try simp only [Jb3,Ja4,push_cast,simprocAttr,U1]
 refine AW.w 2 U1 Tru fun K J1=>?_
 refine AW.cond rfl (fun h10=>?_) (fun h10=>?_)
 ·have hlt:i<n:=by have:=of_decide_eq_true h10;omega
  have c1:(0:Int)<=(i:Int):=by omega
  have c2:(i:Int)<(n:Int):=by omega
  have hoi:o+i<N:=by omega
  have c1:(0:Int)<=(i:Int):=by omega
  have c2:(i:Int)<(n:Int):=by omega
  have c3:o*3+(i*3+3)<=N*3:=by omega
  have ga:=Jb5 (w:=3) (F:=vF G) (fun _=>rfl) hoi
  rw [show (o+i)*3=o*3+i*3 by omega] at ga
  have gx:=Qq6 G (o+i)
  refine AW.w 4 Tru Tru fun K J1=>?_
  have U2:=ca4 U1 c1 c2 (ca4 c3 ga gx hlt)
  refine AW.w 4 U2 (Kf9 minI 258 [] _ _ _ _ _ _ _ fun p q L=>Vi1 p q _) ?_
  have hwi:IntKind.i64.wrap ((i:Int)+1)=(i:Int)+1:=wi (by omega)
  exact Wj (i+1) U2 hwi Tru
 have hin:i=n:=by have:=of_decide_eq_false h10;omega
 rw [hin]
 exact AW.f U1 Tru
theorem Vx5 (a b:Int)(m:Ja1):Ctr Tryz.prog 259 [.one (.int .i64 a),.one (.int .i64 b)] m (.one (.int .i64 (maxI a b))) m:=by
 exact Ctr.f Tryz.func259 [.tmp 4] 8 Tru Tru
theorem Vg6 (a:V)(m:Ja1):Ctr Tryz.prog 233 [.agg (c3C a),.one .nils] m (.agg (c3C a)) m:=by
 refine Ctr.en Tryz.func233 [.cell 4 59] 18 fun hwf Q hQ=>?_
 refine AW.w 4 @Ja6 Tru fun K J0=>?_
 refine AW.r 1 ?_
 exact AW.f @Ja6 Tru
theorem Qe3 (a:V)(G:Nat->V)(r v o n N:Nat)(m:Ja1)(hb:∃ k ez,m[r]?=some ⟨k,59,v,ez,Jb0 N (vF G)⟩)(hN:o+n<=N)(hn:n<=1000000):Ctr Tryz.prog 233 [.agg (c3C a),.one (.sl r v (o*3) n)] m (.agg (c3C (Vq0 a (fun j=>G (o+j)) n))) m:=by
 refine Ctr.en Tryz.func233 [.cell 4 59] 18 fun hwf Q hQ=>?_
 obtain ⟨k0,ez,hb⟩:=hb
 have lb:=Ja8 hb
 have bl:(Jb0 N (vF G)).length=N*3:=Ja5 (w:=3) (F:=vF G) (fun _=>rfl) _
 have hlt0:∀ k,¬m.length+k<m.length:=fun k=>by omega
 have U3:=ca4 hb (Ja3 hb) bl @Ja6
 refine AW.w 4 U3 Tru fun K J0=>?_
 refine AW.loopK [2,4,7,8] (fun i=>i<=n) (fun i=>[(9,.one (.int .i64 (i:Int)))]) (fun i=>[(m.length,⟨.fix,59,0,0,c3C (Vq0 a (fun j=>G (o+j)) i)⟩)]) (fun i=>n - i) 0 (by omega) ?_ ?_ fun i hi2=>?_
 · first|rfl|(simp only [KS,simprocAttr,Vq0,Int.natCast_zero]<;>repeat' (first|rfl|apply And.intro))
 · (simp only [Ja4,push_cast,simprocAttr,c3C])<;>rfl
 try simp only [Jb3,Ja4,push_cast,simprocAttr,U3]
 refine AW.w 2 U3 Tru fun K J1=>?_
 refine AW.cond rfl (fun h10=>?_) (fun h10=>?_)
 ·have hlt:i<n:=by have:=of_decide_eq_true h10;omega
  have c1:(0:Int)<=(i:Int):=by omega
  have c2:(i:Int)<(n:Int):=by omega
  have hoi:o+i<N:=by omega
  have c1:(0:Int)<=(i:Int):=by omega
  have c2:(i:Int)<(n:Int):=by omega
  have c3:o*3+(i*3+3)<=N*3:=by omega
  have ga:=Jb5 (w:=3) (F:=vF G) (fun _=>rfl) hoi
  rw [show (o+i)*3=o*3+i*3 by omega] at ga
  have gx:=Qq6 G (o+i)
  refine AW.w 4 Tru Tru fun K J1=>?_
  have U4:=ca4 U3 c1 c2 (ca4 c3 ga gx hlt)
  refine AW.w 4 U4 (Kf9 maxI 259 [] _ _ _ _ _ _ _ fun p q L=>Vx5 p q _) ?_
  have hwi:IntKind.i64.wrap ((i:Int)+1)=(i:Int)+1:=wi (by omega)
  exact Wj (i+1) U4 hwi Tru
 have hin:i=n:=by have:=of_decide_eq_false h10;omega
 rw [hin]
 exact AW.f U3 Tru
theorem Je9 (b:BX):bxC b=(c3C b.lo++c3C b.hi):=rfl
theorem Xb4 (a:V)(G:Nat->V)(r v o n N:Nat)(m:Ja1)(hb:∃ k ez,m[r]?=some ⟨k,59,v,ez,Jb0 N (vF G)⟩)(hN:o+n<=N)(hn:n<=1000000):Ctr Tryz.prog 193 [.agg (c3C a),.one (.sl r v (o*3) n)] m (.agg (bxC (⟨Vp8 a (fun j=>G (o+j)) n,Vq0 a (fun j=>G (o+j)) n⟩))) m:=by
 obtain ⟨k0,ez,hb⟩:=hb
 have lb:=Ja8 hb
 have U1:=ca2 @Je9 @Ja6
 exact Ctr.fd Tryz.func193 [.cell 4 232] 12 [[.rd 0,.val,.ext,.rd 0,.val,.ext,.val,.wr]] U1 (ca2 (Kr3 a G r v o n N _ ⟨k0,ez,Ja3 hb _⟩ hN hn) (Qe3 a G r v o n N _ ⟨k0,ez,Ja3 hb _⟩ hN hn))
theorem Xh7 (a:V)(m:Ja1):Ctr Tryz.prog 193 [.agg (c3C a),.one .nils] m (.agg (bxC (⟨a,a⟩))) m:=by
 have U2:=ca2 @Je9 @Ja6
 exact Ctr.fd Tryz.func193 [.cell 4 232] 12 [[.rd 0,.val,.ext,.rd 0,.val,.ext,.val,.wr]] U2 (ca2 (Qx9 a) (Vg6 a))
theorem Vs1 (a b:V):Jb2 a b=(fun k=>Jf3 (a k) (b k)):=rfl
theorem Vs3 (a b:V):Jf9 a b=(fun k=>Jd0 (a k) (b k)):=rfl
theorem Qq1 (b:BX)(w:Int)(m:Ja1):Ctr Tryz.prog 224 [.agg (bxC b),.one (.int .i64 w)] m (.agg (bxC (⟨fun k=>Jf3 (b.lo k) w,fun k=>Jd0 (b.hi k) w⟩))) m:=by
 have U3:=ca4 @Je9 @Ja6 @Vs1 @Vs3
 exact Ctr.fd Tryz.func224 [.cell 4 232] 19 [[.val,.rd 0,.rd 0,.ext,.val,.rd 0,.rd 0,.ext,.val,.wr]] U3 (ca3 Kv6 (Ji0 b.lo (fun _=>w)) (Qb2 b.hi (fun _=>w)))
theorem Vb0 (p:PL)(m:Ja1)(hk:(p.kind ==0)=true):Ctr Tryz.prog 178 [.agg (plC p)] m (.agg (bxC (Jc6 p))) m:=by
 refine Ctr.en Tryz.func178 [.cell 2 232] 26 fun hwf Q hQ=>?_
 have hv:Jc6 p=⟨fun k=>Jf3 (p.P 0 k) (Jd0 p.r 8192),fun k=>Jd0 (p.P 0 k) (Jd0 p.r 8192)⟩:=by unfold Jc6;rw [if_pos (eq_of_beq hk)]
 rw [hv] at hQ
 have gx:=Jk6 p
 have U4:=ca4 gx hk @Je9 @Ja6
 exact AW.fd [[.val,.val,.rd 0,.ext,.val,.rd 0,.ext,.ext,.wr]] U4 (ca3 (Xh7 (p.P 0)) Kb9 (Qq1 ⟨p.P 0,p.P 0⟩ (Jd0 p.r 8192)))
theorem Va9 (p:PL)(m:Ja1)(hk:(p.kind ==0)=false):Ctr Tryz.prog 178 [.agg (plC p)] m (.agg (bxC (Jc6 p))) m:=by
 refine Ctr.en Tryz.func178 [.cell 2 232] 26 fun hwf Q hQ=>?_
 have hv:Jc6 p=⟨fun k=>Jf3 (lo3 p k) 8192,fun k=>Jd0 (hi3 p k) 8192⟩:=by unfold Jc6;rw [if_neg (by simpa using hk)]
 rw [hv] at hQ
 have gx:=Jk6 p
 have U5:=ca4 gx hk @Je9 @Ja6
 refine AW.w 6 U5 Tru ?_
 refine AW.sr 1 fun K J0=>?_
 simp only [push_cast,simprocAttr,U5]
 refine CThen.by ((by have h:=fun M q=>Xb4 (p.P 0) (fun j=>p.P (j+1)) (m.length+2) 0 0 2 2 M q (by omega) (by omega);exact h _ ⟨.grow,3,by rw [Jf1];rfl⟩)) ?_
 simp only [push_cast,simprocAttr,U5]
 refine CThen.by (Qq1 ⟨lo3 p,hi3 p⟩ 8192 _) ?_
 simp only [push_cast,simprocAttr,U5]
 exact AW.f Tru Tru
theorem Jn1 (p:PL)(m:Ja1):Ctr Tryz.prog 178 [.agg (plC p)] m (.agg (bxC (Jc6 p))) m:=by
 cases hk:(p.kind ==0)
 ·exact Va9 p m hk
 exact Vb0 p m hk
theorem Ki7 (b c:BX)(r v:Nat)(m:Ja1)(hb:∃ k ez,m[r]?=some ⟨k,232,v,ez,bxC c⟩):Ctr Tryz.prog 226 [.agg (bxC b),.one (.sl r v 0 1)] m (.agg (bxC (Vi5 b c))) m:=by
 refine Ctr.en Tryz.func226 [.cell 4 232] 28 fun hwf Q hQ=>?_
 obtain ⟨k0,ez,hb⟩:=hb
 have lb:=Ja8 hb
 have U6:=ca4 hb (Ja3 hb) @Je9 @Ja6
 refine AW.w 4 U6 Tru fun K J0=>?_
 refine AW.r 2 ?_
 refine AW.w 6 U6 Tru fun K J1 K J2=>?_
 refine AW.drawX fol (by kernel_rfl) ?_
 refine DX.split 4 10 (by decide) ?_ ?_
 ·refine DX.split 5 10 (by decide) ?_ ?_
  ·refine DX.run [0,1,2,3,4,5,6,7,8,9,10,11,12,13] [.val,.rd 0,.val,.rd 0,.ext,.ext,.val,.rd 0,.val,.rd 0,.ext,.ext,.val,.wr] (by simp only [Jo3,Qp0,List.idxOf_cons,push_cast,simprocAttr,U6];first|done|rfl) (by kernel_rfl) ?_
   simp only [push_cast,simprocAttr,U6]
   refine DExt.by (by first|rfl|exact (List.append_nil _).symm|(simp only [List.append_assoc,List.cons_append,List.nil_append];rfl)) ?_
   simp only [push_cast,simprocAttr,U6]
   refine DCall.z ((by have h:=fun M r q=>Kr3 b.lo (fun _=>c.lo) r 0 0 1 1 M q (by omega) (by omega);exact h _ _ ⟨.grow,3,by simp only [push_cast,simprocAttr];rfl⟩)) ?_
   simp only [push_cast,simprocAttr,U6]
   refine DExt.by (by first|rfl|exact (List.append_nil _).symm|(simp only [List.append_assoc,List.cons_append,List.nil_append];rfl)) ?_
   simp only [push_cast,simprocAttr,U6]
   refine DCall.z ((by have h:=fun M r q=>Qe3 b.hi (fun _=>c.hi) r 0 0 1 1 M q (by omega) (by omega);exact h _ _ ⟨.grow,3,by simp only [push_cast,simprocAttr];rfl⟩)) ?_
   simp only [push_cast,simprocAttr,U6]
   exact AW.f U6 Tru
  refine DX.run [0,1,2,3,4,6,7,8,9,10,5,11,12,13] [.val,.rd 0,.val,.rd 0,.ext,.val,.rd 0,.val,.rd 0,.ext,.ext,.ext,.val,.wr] (by simp only [Jo3,Qp0,List.idxOf_cons,push_cast,simprocAttr,U6];first|done|rfl) (by kernel_rfl) ?_
  iterate 2
   simp only [push_cast,simprocAttr,U6]
   refine DExt.by (by first|rfl|exact (List.append_nil _).symm|(simp only [List.append_assoc,List.cons_append,List.nil_append];rfl)) ?_
  simp only [push_cast,simprocAttr,U6]
  refine DCall.z ((by have h:=fun M r q=>Kr3 b.lo (fun _=>c.lo) r 0 0 1 1 M q (by omega) (by omega);exact h _ _ ⟨.grow,3,by simp only [push_cast,simprocAttr];rfl⟩)) ?_
  simp only [push_cast,simprocAttr,U6]
  refine DCall.z ((by have h:=fun M r q=>Qe3 b.hi (fun _=>c.hi) r 0 0 1 1 M q (by omega) (by omega);exact h _ _ ⟨.grow,3,by simp only [push_cast,simprocAttr];rfl⟩)) ?_
  simp only [push_cast,simprocAttr,U6]
  exact AW.f U6 Tru
 refine DX.run [0,1,2,3,6,7,8,9,10,4,5,11,12,13] [.val,.rd 0,.val,.rd 0,.val,.rd 0,.val,.rd 0,.ext,.ext,.ext,.ext,.val,.wr] (by simp only [Jo3,Qp0,List.idxOf_cons,push_cast,simprocAttr,U6];first|done|rfl) (by kernel_rfl) ?_
 iterate 2
  simp only [push_cast,simprocAttr,U6]
  refine DExt.by (by first|rfl|exact (List.append_nil _).symm|(simp only [List.append_assoc,List.cons_append,List.nil_append];rfl)) ?_
 simp only [push_cast,simprocAttr,U6]
 refine DCall.z ((by have h:=fun M r q=>Kr3 b.lo (fun _=>c.lo) r 0 0 1 1 M q (by omega) (by omega);exact h _ _ ⟨.grow,3,by simp only [push_cast,simprocAttr];rfl⟩)) ?_
 simp only [push_cast,simprocAttr,U6]
 refine DCall.z ((by have h:=fun M r q=>Qe3 b.hi (fun _=>c.hi) r 0 0 1 1 M q (by omega) (by omega);exact h _ _ ⟨.grow,3,by simp only [push_cast,simprocAttr];rfl⟩)) ?_
 simp only [push_cast,simprocAttr,U6]
 exact AW.f U6 Tru
theorem Kb2 (p:PR):prC p=(bxC p.a++bxC p.b):=rfl
theorem Xn5 (p q:PR)(r v:Nat)(m:Ja1)(hb:∃ k ez,m[r]?=some ⟨k,234,v,ez,prC q⟩):Ctr Tryz.prog 251 [.agg (prC p),.one (.sl r v 0 1)] m (.agg (prC (Kx6 p q))) m:=by
 refine Ctr.en Tryz.func251 [.cell 4 234] 28 fun hwf Q hQ=>?_
 obtain ⟨k0,ez,hb⟩:=hb
 have lb:=Ja8 hb
 have U1:=ca4 hb (Ja3 hb) @Kb2 (ca2 @Je9 @Ja6)
 refine AW.w 4 U1 Tru fun K J0=>?_
 refine AW.r 2 ?_
 refine AW.w 6 U1 Tru fun K J1 K J2=>?_
 refine AW.drawX fol (by kernel_rfl) ?_
 refine DX.split 4 10 (by decide) ?_ ?_
 ·refine DX.split 5 10 (by decide) ?_ ?_
  ·refine DX.run [0,1,2,3,4,5,6,7,8,9,10,11,12,13] [.val,.rd 0,.val,.rd 0,.ext,.ext,.val,.rd 0,.val,.rd 0,.ext,.ext,.val,.wr] (by simp only [Jo3,Qp0,List.idxOf_cons,push_cast,simprocAttr,U1];first|done|rfl) (by kernel_rfl) ?_
   simp only [push_cast,simprocAttr,U1]
   refine DExt.by (by first|rfl|exact (List.append_nil _).symm|(simp only [List.append_assoc,List.cons_append,List.nil_append];rfl)) ?_
   simp only [push_cast,simprocAttr,U1]
   refine DCall.z (Ki7 (p.a) (q.a) _ 0 _ ⟨.grow,6,by simp only [push_cast,simprocAttr];rfl⟩) ?_
   simp only [push_cast,simprocAttr,U1]
   refine DExt.by (by first|rfl|exact (List.append_nil _).symm|(simp only [List.append_assoc,List.cons_append,List.nil_append];rfl)) ?_
   simp only [push_cast,simprocAttr,U1]
   refine DCall.z (Ki7 (p.b) (q.b) _ 0 _ ⟨.grow,6,by simp only [push_cast,simprocAttr];rfl⟩) ?_
   simp only [push_cast,simprocAttr,U1]
   exact AW.f U1 Tru
  refine DX.run [0,1,2,3,4,6,7,8,9,10,5,11,12,13] [.val,.rd 0,.val,.rd 0,.ext,.val,.rd 0,.val,.rd 0,.ext,.ext,.ext,.val,.wr] (by simp only [Jo3,Qp0,List.idxOf_cons,push_cast,simprocAttr,U1];first|done|rfl) (by kernel_rfl) ?_
  iterate 2
   simp only [push_cast,simprocAttr,U1]
   refine DExt.by (by first|rfl|exact (List.append_nil _).symm|(simp only [List.append_assoc,List.cons_append,List.nil_append];rfl)) ?_
  simp only [push_cast,simprocAttr,U1]
  refine DCall.z (Ki7 (p.a) (q.a) _ 0 _ ⟨.grow,6,by simp only [push_cast,simprocAttr];rfl⟩) ?_
  simp only [push_cast,simprocAttr,U1]
  refine DCall.z (Ki7 (p.b) (q.b) _ 0 _ ⟨.grow,6,by simp only [push_cast,simprocAttr];rfl⟩) ?_
  simp only [push_cast,simprocAttr,U1]
  exact AW.f U1 Tru
 refine DX.run [0,1,2,3,6,7,8,9,10,4,5,11,12,13] [.val,.rd 0,.val,.rd 0,.val,.rd 0,.val,.rd 0,.ext,.ext,.ext,.ext,.val,.wr] (by simp only [Jo3,Qp0,List.idxOf_cons,push_cast,simprocAttr,U1];first|done|rfl) (by kernel_rfl) ?_
 iterate 2
  simp only [push_cast,simprocAttr,U1]
  refine DExt.by (by first|rfl|exact (List.append_nil _).symm|(simp only [List.append_assoc,List.cons_append,List.nil_append];rfl)) ?_
 simp only [push_cast,simprocAttr,U1]
 refine DCall.z (Ki7 (p.a) (q.a) _ 0 _ ⟨.grow,6,by simp only [push_cast,simprocAttr];rfl⟩) ?_
 simp only [push_cast,simprocAttr,U1]
 refine DCall.z (Ki7 (p.b) (q.b) _ 0 _ ⟨.grow,6,by simp only [push_cast,simprocAttr];rfl⟩) ?_
 simp only [push_cast,simprocAttr,U1]
 exact AW.f U1 Tru
theorem Xa8 (b:BX)(m:Ja1)(g0:2147483648<=Jh5 (b.lo 0)):Ctr Tryz.prog 179 [.agg (bxC b)] m (.one (.bool true)) m:=by
 refine Ctr.en Tryz.func179 [.tmp 2] 26 fun hwf Q hQ=>?_
 have U2:=ca4 @Je9 @Ja6 @decide_true (ca2 @decide_false g0)
 refine AW.w 4 U2 Tru fun K J0=>?_
 refine AW.r 4 ?_
 refine AW.wd [[.val,.rd 0,.val,.ext,.val,.rd 0,.val,.ext,.val,.val]] 8 U2 (ca2 (Jc0 b.lo) (Jc0 b.hi)) fun K J1 K J2=>?_
 refine AW.r 3 ?_
 refine ARounds.s fun K J3=>?_
 have U3:=ca2 U2 g0
 exact AW.f U3 (Ji6 (b.lo 0))
theorem Xa7 (b:BX)(m:Ja1)(g0:¬2147483648<=Jh5 (b.lo 0))(g1:2147483648<=Jh5 (b.hi 0)):Ctr Tryz.prog 179 [.agg (bxC b)] m (.one (.bool true)) m:=by
 refine Ctr.en Tryz.func179 [.tmp 2] 26 fun hwf Q hQ=>?_
 have U4:=ca4 @Je9 @Ja6 @decide_true (ca3 @decide_false g0 g1)
 refine AW.w 4 U4 Tru fun K J0=>?_
 refine AW.r 4 ?_
 refine AW.wd [[.val,.rd 0,.val,.ext,.val,.rd 0,.val,.ext,.val,.val]] 8 U4 (ca2 (Jc0 b.lo) (Jc0 b.hi)) fun K J1 K J2=>?_
 refine AW.r 3 ?_
 refine ARounds.s fun K J3=>?_
 have U5:=ca2 U4 g0
 refine AW.w 12 U5 (Ji6 (b.lo 0)) fun K J3=>?_
 have U6:=ca2 U4 g1
 exact AW.f U6 (Ji6 (b.hi 0))
theorem Xa6 (b:BX)(m:Ja1)(g0:¬2147483648<=Jh5 (b.lo 0))(g1:¬2147483648<=Jh5 (b.hi 0))(g2:2147483648<=Jh5 (b.lo 1)):Ctr Tryz.prog 179 [.agg (bxC b)] m (.one (.bool true)) m:=by
 refine Ctr.en Tryz.func179 [.tmp 2] 26 fun hwf Q hQ=>?_
 have U7:=ca4 @Je9 @Ja6 @decide_true (ca4 @decide_false g0 g1 g2)
 refine AW.w 4 U7 Tru fun K J0=>?_
 refine AW.r 4 ?_
 refine AW.wd [[.val,.rd 0,.val,.ext,.val,.rd 0,.val,.ext,.val,.val]] 8 U7 (ca2 (Jc0 b.lo) (Jc0 b.hi)) fun K J1 K J2=>?_
 refine AW.r 3 ?_
 refine ARounds.s fun K J3=>?_
 have U8:=ca2 U7 g0
 refine AW.w 12 U8 (Ji6 (b.lo 0)) fun K J3=>?_
 have U9:=ca2 U7 g1
 refine AW.w 12 U9 (Ji6 (b.hi 0)) fun K J3=>?_
 refine AW.wd [[.val,.rd 0,.val,.ext,.val,.rd 0,.val,.ext,.val,.val]] 15 U7 (ca2 (Jc7 b.lo) (Jc7 b.hi)) fun K J4 K J1 K J2=>?_
 refine AW.r 3 ?_
 refine ARounds.s fun K J3=>?_
 have U10:=ca2 U7 g2
 exact AW.f U10 (Ji6 (b.lo 1))
theorem Xa5 (b:BX)(m:Ja1)(g0:¬2147483648<=Jh5 (b.lo 0))(g1:¬2147483648<=Jh5 (b.hi 0))(g2:¬2147483648<=Jh5 (b.lo 1))(g3:2147483648<=Jh5 (b.hi 1)):Ctr Tryz.prog 179 [.agg (bxC b)] m (.one (.bool true)) m:=by
 refine Ctr.en Tryz.func179 [.tmp 2] 26 fun hwf Q hQ=>?_
 have U11:=ca4 @Je9 @Ja6 @decide_true (ca4 @decide_false g0 g1 (ca2 g2 g3))
 refine AW.w 4 U11 Tru fun K J0=>?_
 refine AW.r 4 ?_
 refine AW.wd [[.val,.rd 0,.val,.ext,.val,.rd 0,.val,.ext,.val,.val]] 8 U11 (ca2 (Jc0 b.lo) (Jc0 b.hi)) fun K J1 K J2=>?_
 refine AW.r 3 ?_
 refine ARounds.s fun K J3=>?_
 have U12:=ca2 U11 g0
 refine AW.w 12 U12 (Ji6 (b.lo 0)) fun K J3=>?_
 have U13:=ca2 U11 g1
 refine AW.w 12 U13 (Ji6 (b.hi 0)) fun K J3=>?_
 refine AW.wd [[.val,.rd 0,.val,.ext,.val,.rd 0,.val,.ext,.val,.val]] 15 U11 (ca2 (Jc7 b.lo) (Jc7 b.hi)) fun K J4 K J1 K J2=>?_
 refine AW.r 3 ?_
 refine ARounds.s fun K J3=>?_
 have U14:=ca2 U11 g2
 refine AW.w 12 U14 (Ji6 (b.lo 1)) fun K J3=>?_
 have U15:=ca2 U11 g3
 exact AW.f U15 (Ji6 (b.hi 1))
theorem Xa4 (b:BX)(m:Ja1)(g0:¬2147483648<=Jh5 (b.lo 0))(g1:¬2147483648<=Jh5 (b.hi 0))(g2:¬2147483648<=Jh5 (b.lo 1))(g3:¬2147483648<=Jh5 (b.hi 1))(g4:2147483648<=Jh5 (b.lo 2)):Ctr Tryz.prog 179 [.agg (bxC b)] m (.one (.bool true)) m:=by
 refine Ctr.en Tryz.func179 [.tmp 2] 26 fun hwf Q hQ=>?_
 have U16:=ca4 @Je9 @Ja6 @decide_true (ca4 @decide_false g0 g1 (ca3 g2 g3 g4))
 refine AW.w 4 U16 Tru fun K J0=>?_
 refine AW.r 4 ?_
 refine AW.wd [[.val,.rd 0,.val,.ext,.val,.rd 0,.val,.ext,.val,.val]] 8 U16 (ca2 (Jc0 b.lo) (Jc0 b.hi)) fun K J1 K J2=>?_
 refine AW.r 3 ?_
 refine ARounds.s fun K J3=>?_
 have U17:=ca2 U16 g0
 refine AW.w 12 U17 (Ji6 (b.lo 0)) fun K J3=>?_
 have U18:=ca2 U16 g1
 refine AW.w 12 U18 (Ji6 (b.hi 0)) fun K J3=>?_
 refine AW.wd [[.val,.rd 0,.val,.ext,.val,.rd 0,.val,.ext,.val,.val]] 15 U16 (ca2 (Jc7 b.lo) (Jc7 b.hi)) fun K J4 K J1 K J2=>?_
 refine AW.r 3 ?_
 refine ARounds.s fun K J3=>?_
 have U19:=ca2 U16 g2
 refine AW.w 12 U19 (Ji6 (b.lo 1)) fun K J3=>?_
 have U20:=ca2 U16 g3
 refine AW.w 12 U20 (Ji6 (b.hi 1)) fun K J3=>?_
 refine AW.wd [[.val,.rd 0,.val,.ext,.val,.rd 0,.val,.ext,.val,.val]] 15 U16 (ca2 (Je2 b.lo) (Je2 b.hi)) fun K J4 K J1 K J2=>?_
 refine AW.r 3 ?_
 refine ARounds.s fun K J3=>?_
 have U21:=ca2 U16 g4
 exact AW.f U21 (Ji6 (b.lo 2))
theorem Xa3 (b:BX)(m:Ja1)(g0:¬2147483648<=Jh5 (b.lo 0))(g1:¬2147483648<=Jh5 (b.hi 0))(g2:¬2147483648<=Jh5 (b.lo 1))(g3:¬2147483648<=Jh5 (b.hi 1))(g4:¬2147483648<=Jh5 (b.lo 2))(g5:2147483648<=Jh5 (b.hi 2)):Ctr Tryz.prog 179 [.agg (bxC b)] m (.one (.bool true)) m:=by
 refine Ctr.en Tryz.func179 [.tmp 2] 26 fun hwf Q hQ=>?_
 have U22:=ca4 @Je9 @Ja6 @decide_true (ca4 @decide_false g0 g1 (ca4 g2 g3 g4 g5))
 refine AW.w 4 U22 Tru fun K J0=>?_
 refine AW.r 4 ?_
 refine AW.wd [[.val,.rd 0,.val,.ext,.val,.rd 0,.val,.ext,.val,.val]] 8 U22 (ca2 (Jc0 b.lo) (Jc0 b.hi)) fun K J1 K J2=>?_
 refine AW.r 3 ?_
 refine ARounds.s fun K J3=>?_
 have U23:=ca2 U22 g0
 refine AW.w 12 U23 (Ji6 (b.lo 0)) fun K J3=>?_
 have U24:=ca2 U22 g1
 refine AW.w 12 U24 (Ji6 (b.hi 0)) fun K J3=>?_
 refine AW.wd [[.val,.rd 0,.val,.ext,.val,.rd 0,.val,.ext,.val,.val]] 15 U22 (ca2 (Jc7 b.lo) (Jc7 b.hi)) fun K J4 K J1 K J2=>?_
 refine AW.r 3 ?_
 refine ARounds.s fun K J3=>?_
 have U25:=ca2 U22 g2
 refine AW.w 12 U25 (Ji6 (b.lo 1)) fun K J3=>?_
 have U26:=ca2 U22 g3
 refine AW.w 12 U26 (Ji6 (b.hi 1)) fun K J3=>?_
 refine AW.wd [[.val,.rd 0,.val,.ext,.val,.rd 0,.val,.ext,.val,.val]] 15 U22 (ca2 (Je2 b.lo) (Je2 b.hi)) fun K J4 K J1 K J2=>?_
 refine AW.r 3 ?_
 refine ARounds.s fun K J3=>?_
 have U27:=ca2 U22 g4
 refine AW.w 12 U27 (Ji6 (b.lo 2)) fun K J3=>?_
 have U28:=ca2 U22 g5
 exact AW.f U28 (Ji6 (b.hi 2))
theorem Xa2 (b:BX)(m:Ja1)(g0:¬2147483648<=Jh5 (b.lo 0))(g1:¬2147483648<=Jh5 (b.hi 0))(g2:¬2147483648<=Jh5 (b.lo 1))(g3:¬2147483648<=Jh5 (b.hi 1))(g4:¬2147483648<=Jh5 (b.lo 2))(g5:¬2147483648<=Jh5 (b.hi 2)):Ctr Tryz.prog 179 [.agg (bxC b)] m (.one (.bool false)) m:=by
 refine Ctr.en Tryz.func179 [.tmp 2] 26 fun hwf Q hQ=>?_
 have U29:=ca4 @Je9 @Ja6 @decide_true (ca4 @decide_false g0 g1 (ca4 g2 g3 g4 g5))
 refine AW.w 4 U29 Tru fun K J0=>?_
 refine AW.r 4 ?_
 refine AW.wd [[.val,.rd 0,.val,.ext,.val,.rd 0,.val,.ext,.val,.val]] 8 U29 (ca2 (Jc0 b.lo) (Jc0 b.hi)) fun K J1 K J2=>?_
 refine AW.r 3 ?_
 refine ARounds.s fun K J3=>?_
 have U30:=ca2 U29 g0
 refine AW.w 12 U30 (Ji6 (b.lo 0)) fun K J3=>?_
 have U31:=ca2 U29 g1
 refine AW.w 12 U31 (Ji6 (b.hi 0)) fun K J3=>?_
 refine AW.wd [[.val,.rd 0,.val,.ext,.val,.rd 0,.val,.ext,.val,.val]] 15 U29 (ca2 (Jc7 b.lo) (Jc7 b.hi)) fun K J4 K J1 K J2=>?_
 refine AW.r 3 ?_
 refine ARounds.s fun K J3=>?_
 have U32:=ca2 U29 g2
 refine AW.w 12 U32 (Ji6 (b.lo 1)) fun K J3=>?_
 have U33:=ca2 U29 g3
 refine AW.w 12 U33 (Ji6 (b.hi 1)) fun K J3=>?_
 refine AW.wd [[.val,.rd 0,.val,.ext,.val,.rd 0,.val,.ext,.val,.val]] 15 U29 (ca2 (Je2 b.lo) (Je2 b.hi)) fun K J4 K J1 K J2=>?_
 refine AW.r 3 ?_
 refine ARounds.s fun K J3=>?_
 have U34:=ca2 U29 g4
 refine AW.w 12 U34 (Ji6 (b.lo 2)) fun K J3=>?_
 have U35:=ca2 U29 g5
 refine AW.w 12 U35 (Ji6 (b.hi 2)) fun K J3=>?_
 exact AW.f U29 Tru
theorem Kj6 (b:BX)(m:Ja1)(q:Bool)(hq:q=true↔Jz7 b):Ctr Tryz.prog 179 [.agg (bxC b)] m (.one (.bool q)) m:=by
 by_cases g0:2147483648<=Jh5 (b.lo 0)
 ·obtain rfl:q=true:=hq.2 ⟨0,by omega,.inl g0⟩
  exact Xa8 b m g0
 by_cases g1:2147483648<=Jh5 (b.hi 0)
 ·obtain rfl:q=true:=hq.2 ⟨0,by omega,.inr g1⟩
  exact Xa7 b m g0 g1
 by_cases g2:2147483648<=Jh5 (b.lo 1)
 ·obtain rfl:q=true:=hq.2 ⟨1,by omega,.inl g2⟩
  exact Xa6 b m g0 g1 g2
 by_cases g3:2147483648<=Jh5 (b.hi 1)
 ·obtain rfl:q=true:=hq.2 ⟨1,by omega,.inr g3⟩
  exact Xa5 b m g0 g1 g2 g3
 by_cases g4:2147483648<=Jh5 (b.lo 2)
 ·obtain rfl:q=true:=hq.2 ⟨2,by omega,.inl g4⟩
  exact Xa4 b m g0 g1 g2 g3 g4
 by_cases g5:2147483648<=Jh5 (b.hi 2)
 ·obtain rfl:q=true:=hq.2 ⟨2,by omega,.inr g5⟩
  exact Xa3 b m g0 g1 g2 g3 g4 g5
 obtain rfl:q=false:=by
  cases q with
  | false=>rfl
  | true =>
   obtain ⟨k,hk,h⟩:=hq.1 rfl
   match k,hk,h with
   | 0,_,.inl h=>exact absurd h g0
   | 0,_,.inr h=>exact absurd h g1
   | 1,_,.inl h=>exact absurd h g2
   | 1,_,.inr h=>exact absurd h g3
   | 2,_,.inl h=>exact absurd h g4
   | 2,_,.inr h=>exact absurd h g5
 exact Xa2 b m g0 g1 g2 g3 g4 g5
theorem Xh4 (p:PR)(t:Int)(m:Ja1):Ctr Tryz.prog 123 [.agg (prC p),.one (.int .i64 t)] m (.agg (bxC (atP p t))) m:=by
 have U36:=ca3 @Kb2 @Je9 @Ja6
 exact Ctr.fd Tryz.func123 [.cell 4 232] 22 [[.val,.val,.rd 0,.val,.val,.rd 0,.val,.ext,.val,.val,.rd 0,.val,.val,.rd 0,.val,.ext,.val,.wr]] U36 (ca2 (Ke0 p.a.lo p.b.lo t) (Ke0 p.a.hi p.b.hi t))
theorem Qd8 (p:PR)(m:Ja1):Ctr Tryz.prog 182 [.agg (prC p)] m (.agg (bxC (Jn4 p))) m:=by
 refine Ctr.en Tryz.func182 [.cell 2 232] 9 fun hwf Q hQ=>?_
 refine AW.sr 2 fun K J0=>?_
 simp only [push_cast,simprocAttr,prC,bxC,c3C]
 refine CThen.by (Ki7 p.a p.b _ 0 _ ⟨.grow,6,by simp only [push_cast,simprocAttr];rfl⟩) ?_
 simp only [push_cast,simprocAttr,prC,bxC,c3C]
 exact AW.f Tru Tru
theorem Vg7 (b:BX)(m:Ja1):Ctr Tryz.prog 183 [.agg (bxC b)] m (.agg (c3C (Xi2 b))) m:=by
 have U37:=ca2 @Je9 @Ja6
 exact Ctr.f Tryz.func183 [.cell 2 59] 8 U37 (Ke0 b.lo b.hi 32768)
theorem Va6 (b:BX)(m:Ja1):Ctr Tryz.prog 252 [.agg (bxC b)] m (.agg (c3C (Jq4 b))) m:=by
 have U38:=ca2 @Je9 @Ja6
 exact Ctr.f Tryz.func252 [.cell 2 59] 8 U38 (Ji0 b.hi b.lo)
theorem Xf1 (b:BX)(m:Ja1):Ctr Tryz.prog 267 [.agg (bxC b)] m (.one (.int .i64 (Kt7 b))) m:=by
 refine Ctr.en Tryz.func267 [.tmp 2] 23 fun hwf Q hQ=>?_
 have hv:Kt7 b=Jd0 (Jd0 (Jd0 0 (Jd2 (Jq4 b 0) (Jq4 b 1))) (Jd2 (Jq4 b 1) (Jq4 b 2))) (Jd2 (Jq4 b 2) (Jq4 b 0)):=rfl
 rw [hv] at hQ
 have U39:=ca2 @Je9 @Ja6
 refine AW.c 2 U39 (Va6 b) ?_
 refine AW.q fun K J0=>?_
 refine AW.draw [.val,.rd 0,.val,.rd 0,.ext,.val,.rd 0,.val,.rd 0,.ext,.val,.rd 0,.val,.rd 0,.ext,.ext,.ext,.val] fol (by decide) (by kernel_rfl) ?_
 iterate 3
  simp only [push_cast,simprocAttr,U39]
  refine DCall.z (Jm1 _ _ _) ?_
 simp only [push_cast,simprocAttr,U39]
 refine DExt.by (by first|rfl|exact (List.append_nil _).symm|(simp only [List.append_assoc,List.cons_append,List.nil_append];rfl)) ?_
 simp only [push_cast,simprocAttr,U39]
 refine DCall.z (Vo8 _ 0 (Jd2 (Jq4 b 0) (Jq4 b 1)) (Jd2 (Jq4 b 1) (Jq4 b 2)) (Jd2 (Jq4 b 2) (Jq4 b 0)) _ ⟨.grow,1,by simp only [push_cast,simprocAttr]⟩) ?_
 simp only [push_cast,simprocAttr,U39]
 exact AW.f U39 Tru
theorem Vh5 (b c:BX)(m:Ja1)(g0:c.hi 0<b.lo 0):Ctr Tryz.prog 124 [.agg (bxC b),.agg (bxC c)] m (.one (.bool false)) m:=by
 refine Ctr.en Tryz.func124 [.tmp 4] 30 fun hwf Q hQ=>?_
 have U40:=ca4 @Je9 @Ja6 @decide_true (ca2 @decide_false g0)
 refine AW.w 4 U40 Tru fun K J0=>?_
 refine AW.r 4 ?_
 refine AW.w 6 U40 Tru fun K J1 K J2=>?_
 refine AW.q fun K J3=>?_
 refine AW.draw [.val,.rd 0,.val,.ext,.val,.rd 0,.val,.ext,.val,.val,.val,.rd 2,.val,.ext,.val,.rd 2,.val,.ext,.val,.val] fol (by decide) (by kernel_rfl) ?_
 simp only [push_cast,simprocAttr,U40]
 refine DCall.z (Jc0 c.hi _) ?_
 simp only [push_cast,simprocAttr,U40]
 refine DCall.z (Jc0 b.lo _) ?_
 simp only [push_cast,simprocAttr,U40]
 try (refine DCall.z (Jc0 c.lo _) ?_;simp only [push_cast,simprocAttr,U40])
 try (refine DCall.z (Jc0 b.hi _) ?_;simp only [push_cast,simprocAttr,U40])
 exact AW.f U40 Tru
theorem Vh4 (b c:BX)(m:Ja1)(g0:¬c.hi 0<b.lo 0)(g1:b.hi 0<c.lo 0):Ctr Tryz.prog 124 [.agg (bxC b),.agg (bxC c)] m (.one (.bool false)) m:=by
 refine Ctr.en Tryz.func124 [.tmp 4] 30 fun hwf Q hQ=>?_
 have U41:=ca4 @Je9 @Ja6 @decide_true (ca3 @decide_false g0 g1)
 refine AW.w 4 U41 Tru fun K J0=>?_
 refine AW.r 4 ?_
 refine AW.w 6 U41 Tru fun K J1 K J2=>?_
 refine AW.q fun K J3=>?_
 refine AW.draw [.val,.rd 0,.val,.ext,.val,.rd 0,.val,.ext,.val,.val,.val,.rd 2,.val,.ext,.val,.rd 2,.val,.ext,.val,.val] fol (by decide) (by kernel_rfl) ?_
 simp only [push_cast,simprocAttr,U41]
 refine DCall.z (Jc0 c.hi _) ?_
 simp only [push_cast,simprocAttr,U41]
 refine DCall.z (Jc0 b.lo _) ?_
 simp only [push_cast,simprocAttr,U41]
 try (refine DCall.z (Jc0 c.lo _) ?_;simp only [push_cast,simprocAttr,U41])
 try (refine DCall.z (Jc0 b.hi _) ?_;simp only [push_cast,simprocAttr,U41])
 exact AW.f U41 Tru
theorem Vh3 (b c:BX)(m:Ja1)(g0:¬c.hi 0<b.lo 0)(g1:¬b.hi 0<c.lo 0)(g2:c.hi 1<b.lo 1):Ctr Tryz.prog 124 [.agg (bxC b),.agg (bxC c)] m (.one (.bool false)) m:=by
 refine Ctr.en Tryz.func124 [.tmp 4] 30 fun hwf Q hQ=>?_
 have U42:=ca4 @Je9 @Ja6 @decide_true (ca4 @decide_false g0 g1 g2)
 refine AW.w 4 U42 Tru fun K J0=>?_
 refine AW.r 4 ?_
 refine AW.w 6 U42 Tru fun K J1 K J2=>?_
 refine AW.q fun K J3=>?_
 refine AW.draw [.val,.rd 0,.val,.ext,.val,.rd 0,.val,.ext,.val,.val,.val,.rd 2,.val,.ext,.val,.rd 2,.val,.ext,.val,.val] fol (by decide) (by kernel_rfl) ?_
 simp only [push_cast,simprocAttr,U42]
 refine DCall.z (Jc0 c.hi _) ?_
 simp only [push_cast,simprocAttr,U42]
 refine DCall.z (Jc0 b.lo _) ?_
 simp only [push_cast,simprocAttr,U42]
 try (refine DCall.z (Jc0 c.lo _) ?_;simp only [push_cast,simprocAttr,U42])
 try (refine DCall.z (Jc0 b.hi _) ?_;simp only [push_cast,simprocAttr,U42])
 refine AW.w 12 U42 Tru fun K J1 K J2=>?_
 refine AW.q fun K J3=>?_
 refine AW.draw [.val,.rd 0,.val,.ext,.val,.rd 0,.val,.ext,.val,.val,.val,.rd 2,.val,.ext,.val,.rd 2,.val,.ext,.val,.val] fol (by decide) (by kernel_rfl) ?_
 simp only [push_cast,simprocAttr,U42]
 refine DCall.z (Jc7 c.hi _) ?_
 simp only [push_cast,simprocAttr,U42]
 refine DCall.z (Jc7 b.lo _) ?_
 simp only [push_cast,simprocAttr,U42]
 try (refine DCall.z (Jc7 c.lo _) ?_;simp only [push_cast,simprocAttr,U42])
 try (refine DCall.z (Jc7 b.hi _) ?_;simp only [push_cast,simprocAttr,U42])
 exact AW.f U42 Tru
theorem Vh2 (b c:BX)(m:Ja1)(g0:¬c.hi 0<b.lo 0)(g1:¬b.hi 0<c.lo 0)(g2:¬c.hi 1<b.lo 1)(g3:b.hi 1<c.lo 1):Ctr Tryz.prog 124 [.agg (bxC b),.agg (bxC c)] m (.one (.bool false)) m:=by
 refine Ctr.en Tryz.func124 [.tmp 4] 30 fun hwf Q hQ=>?_
 have U43:=ca4 @Je9 @Ja6 @decide_true (ca4 @decide_false g0 g1 (ca2 g2 g3))
 refine AW.w 4 U43 Tru fun K J0=>?_
 refine AW.r 4 ?_
 refine AW.w 6 U43 Tru fun K J1 K J2=>?_
 refine AW.q fun K J3=>?_
 refine AW.draw [.val,.rd 0,.val,.ext,.val,.rd 0,.val,.ext,.val,.val,.val,.rd 2,.val,.ext,.val,.rd 2,.val,.ext,.val,.val] fol (by decide) (by kernel_rfl) ?_
 simp only [push_cast,simprocAttr,U43]
 refine DCall.z (Jc0 c.hi _) ?_
 simp only [push_cast,simprocAttr,U43]
 refine DCall.z (Jc0 b.lo _) ?_
 simp only [push_cast,simprocAttr,U43]
 try (refine DCall.z (Jc0 c.lo _) ?_;simp only [push_cast,simprocAttr,U43])
 try (refine DCall.z (Jc0 b.hi _) ?_;simp only [push_cast,simprocAttr,U43])
 refine AW.w 12 U43 Tru fun K J1 K J2=>?_
 refine AW.q fun K J3=>?_
 refine AW.draw [.val,.rd 0,.val,.ext,.val,.rd 0,.val,.ext,.val,.val,.val,.rd 2,.val,.ext,.val,.rd 2,.val,.ext,.val,.val] fol (by decide) (by kernel_rfl) ?_
 simp only [push_cast,simprocAttr,U43]
 refine DCall.z (Jc7 c.hi _) ?_
 simp only [push_cast,simprocAttr,U43]
 refine DCall.z (Jc7 b.lo _) ?_
 simp only [push_cast,simprocAttr,U43]
 try (refine DCall.z (Jc7 c.lo _) ?_;simp only [push_cast,simprocAttr,U43])
 try (refine DCall.z (Jc7 b.hi _) ?_;simp only [push_cast,simprocAttr,U43])
 exact AW.f U43 Tru
theorem Vh1 (b c:BX)(m:Ja1)(g0:¬c.hi 0<b.lo 0)(g1:¬b.hi 0<c.lo 0)(g2:¬c.hi 1<b.lo 1)(g3:¬b.hi 1<c.lo 1)(g4:c.hi 2<b.lo 2):Ctr Tryz.prog 124 [.agg (bxC b),.agg (bxC c)] m (.one (.bool false)) m:=by
 refine Ctr.en Tryz.func124 [.tmp 4] 30 fun hwf Q hQ=>?_
 have U44:=ca4 @Je9 @Ja6 @decide_true (ca4 @decide_false g0 g1 (ca3 g2 g3 g4))
 refine AW.w 4 U44 Tru fun K J0=>?_
 refine AW.r 4 ?_
 refine AW.w 6 U44 Tru fun K J1 K J2=>?_
 refine AW.q fun K J3=>?_
 refine AW.draw [.val,.rd 0,.val,.ext,.val,.rd 0,.val,.ext,.val,.val,.val,.rd 2,.val,.ext,.val,.rd 2,.val,.ext,.val,.val] fol (by decide) (by kernel_rfl) ?_
 simp only [push_cast,simprocAttr,U44]
 refine DCall.z (Jc0 c.hi _) ?_
 simp only [push_cast,simprocAttr,U44]
 refine DCall.z (Jc0 b.lo _) ?_
 simp only [push_cast,simprocAttr,U44]
 try (refine DCall.z (Jc0 c.lo _) ?_;simp only [push_cast,simprocAttr,U44])
 try (refine DCall.z (Jc0 b.hi _) ?_;simp only [push_cast,simprocAttr,U44])
 refine AW.w 12 U44 Tru fun K J1 K J2=>?_
 refine AW.q fun K J3=>?_
 refine AW.draw [.val,.rd 0,.val,.ext,.val,.rd 0,.val,.ext,.val,.val,.val,.rd 2,.val,.ext,.val,.rd 2,.val,.ext,.val,.val] fol (by decide) (by kernel_rfl) ?_
 simp only [push_cast,simprocAttr,U44]
 refine DCall.z (Jc7 c.hi _) ?_
 simp only [push_cast,simprocAttr,U44]
 refine DCall.z (Jc7 b.lo _) ?_
 simp only [push_cast,simprocAttr,U44]
 try (refine DCall.z (Jc7 c.lo _) ?_;simp only [push_cast,simprocAttr,U44])
 try (refine DCall.z (Jc7 b.hi _) ?_;simp only [push_cast,simprocAttr,U44])
 refine AW.w 12 U44 Tru fun K J1 K J2=>?_
 refine AW.q fun K J3=>?_
 refine AW.draw [.val,.rd 0,.val,.ext,.val,.rd 0,.val,.ext,.val,.val,.val,.rd 2,.val,.ext,.val,.rd 2,.val,.ext,.val,.val] fol (by decide) (by kernel_rfl) ?_
 simp only [push_cast,simprocAttr,U44]
 refine DCall.z (Je2 c.hi _) ?_
 simp only [push_cast,simprocAttr,U44]
 refine DCall.z (Je2 b.lo _) ?_
 simp only [push_cast,simprocAttr,U44]
 try (refine DCall.z (Je2 c.lo _) ?_;simp only [push_cast,simprocAttr,U44])
 try (refine DCall.z (Je2 b.hi _) ?_;simp only [push_cast,simprocAttr,U44])
 exact AW.f U44 Tru
theorem Vh0 (b c:BX)(m:Ja1)(g0:¬c.hi 0<b.lo 0)(g1:¬b.hi 0<c.lo 0)(g2:¬c.hi 1<b.lo 1)(g3:¬b.hi 1<c.lo 1)(g4:¬c.hi 2<b.lo 2)(g5:b.hi 2<c.lo 2):Ctr Tryz.prog 124 [.agg (bxC b),.agg (bxC c)] m (.one (.bool false)) m:=by
 refine Ctr.en Tryz.func124 [.tmp 4] 30 fun hwf Q hQ=>?_
 have U45:=ca4 @Je9 @Ja6 @decide_true (ca4 @decide_false g0 g1 (ca4 g2 g3 g4 g5))
 refine AW.w 4 U45 Tru fun K J0=>?_
 refine AW.r 4 ?_
 refine AW.w 6 U45 Tru fun K J1 K J2=>?_
 refine AW.q fun K J3=>?_
 refine AW.draw [.val,.rd 0,.val,.ext,.val,.rd 0,.val,.ext,.val,.val,.val,.rd 2,.val,.ext,.val,.rd 2,.val,.ext,.val,.val] fol (by decide) (by kernel_rfl) ?_
 simp only [push_cast,simprocAttr,U45]
 refine DCall.z (Jc0 c.hi _) ?_
 simp only [push_cast,simprocAttr,U45]
 refine DCall.z (Jc0 b.lo _) ?_
 simp only [push_cast,simprocAttr,U45]
 try (refine DCall.z (Jc0 c.lo _) ?_;simp only [push_cast,simprocAttr,U45])
 try (refine DCall.z (Jc0 b.hi _) ?_;simp only [push_cast,simprocAttr,U45])
 refine AW.w 12 U45 Tru fun K J1 K J2=>?_
 refine AW.q fun K J3=>?_
 refine AW.draw [.val,.rd 0,.val,.ext,.val,.rd 0,.val,.ext,.val,.val,.val,.rd 2,.val,.ext,.val,.rd 2,.val,.ext,.val,.val] fol (by decide) (by kernel_rfl) ?_
 simp only [push_cast,simprocAttr,U45]
 refine DCall.z (Jc7 c.hi _) ?_
 simp only [push_cast,simprocAttr,U45]
 refine DCall.z (Jc7 b.lo _) ?_
 simp only [push_cast,simprocAttr,U45]
 try (refine DCall.z (Jc7 c.lo _) ?_;simp only [push_cast,simprocAttr,U45])
 try (refine DCall.z (Jc7 b.hi _) ?_;simp only [push_cast,simprocAttr,U45])
 refine AW.w 12 U45 Tru fun K J1 K J2=>?_
 refine AW.q fun K J3=>?_
 refine AW.draw [.val,.rd 0,.val,.ext,.val,.rd 0,.val,.ext,.val,.val,.val,.rd 2,.val,.ext,.val,.rd 2,.val,.ext,.val,.val] fol (by decide) (by kernel_rfl) ?_
 simp only [push_cast,simprocAttr,U45]
 refine DCall.z (Je2 c.hi _) ?_
 simp only [push_cast,simprocAttr,U45]
 refine DCall.z (Je2 b.lo _) ?_
 simp only [push_cast,simprocAttr,U45]
 try (refine DCall.z (Je2 c.lo _) ?_;simp only [push_cast,simprocAttr,U45])
 try (refine DCall.z (Je2 b.hi _) ?_;simp only [push_cast,simprocAttr,U45])
 exact AW.f U45 Tru
theorem Vg9 (b c:BX)(m:Ja1)(g0:¬c.hi 0<b.lo 0)(g1:¬b.hi 0<c.lo 0)(g2:¬c.hi 1<b.lo 1)(g3:¬b.hi 1<c.lo 1)(g4:¬c.hi 2<b.lo 2)(g5:¬b.hi 2<c.lo 2):Ctr Tryz.prog 124 [.agg (bxC b),.agg (bxC c)] m (.one (.bool true)) m:=by
 refine Ctr.en Tryz.func124 [.tmp 4] 30 fun hwf Q hQ=>?_
 have U46:=ca4 @Je9 @Ja6 @decide_true (ca4 @decide_false g0 g1 (ca4 g2 g3 g4 g5))
 refine AW.w 4 U46 Tru fun K J0=>?_
 refine AW.r 4 ?_
 refine AW.w 6 U46 Tru fun K J1 K J2=>?_
 refine AW.q fun K J3=>?_
 refine AW.draw [.val,.rd 0,.val,.ext,.val,.rd 0,.val,.ext,.val,.val,.val,.rd 2,.val,.ext,.val,.rd 2,.val,.ext,.val,.val] fol (by decide) (by kernel_rfl) ?_
 simp only [push_cast,simprocAttr,U46]
 refine DCall.z (Jc0 c.hi _) ?_
 simp only [push_cast,simprocAttr,U46]
 refine DCall.z (Jc0 b.lo _) ?_
 simp only [push_cast,simprocAttr,U46]
 try (refine DCall.z (Jc0 c.lo _) ?_;simp only [push_cast,simprocAttr,U46])
 try (refine DCall.z (Jc0 b.hi _) ?_;simp only [push_cast,simprocAttr,U46])
 refine AW.w 12 U46 Tru fun K J1 K J2=>?_
 refine AW.q fun K J3=>?_
 refine AW.draw [.val,.rd 0,.val,.ext,.val,.rd 0,.val,.ext,.val,.val,.val,.rd 2,.val,.ext,.val,.rd 2,.val,.ext,.val,.val] fol (by decide) (by kernel_rfl) ?_
 simp only [push_cast,simprocAttr,U46]
 refine DCall.z (Jc7 c.hi _) ?_
 simp only [push_cast,simprocAttr,U46]
 refine DCall.z (Jc7 b.lo _) ?_
 simp only [push_cast,simprocAttr,U46]
 try (refine DCall.z (Jc7 c.lo _) ?_;simp only [push_cast,simprocAttr,U46])
 try (refine DCall.z (Jc7 b.hi _) ?_;simp only [push_cast,simprocAttr,U46])
 refine AW.w 12 U46 Tru fun K J1 K J2=>?_
 refine AW.q fun K J3=>?_
 refine AW.draw [.val,.rd 0,.val,.ext,.val,.rd 0,.val,.ext,.val,.val,.val,.rd 2,.val,.ext,.val,.rd 2,.val,.ext,.val,.val] fol (by decide) (by kernel_rfl) ?_
 simp only [push_cast,simprocAttr,U46]
 refine DCall.z (Je2 c.hi _) ?_
 simp only [push_cast,simprocAttr,U46]
 refine DCall.z (Je2 b.lo _) ?_
 simp only [push_cast,simprocAttr,U46]
 try (refine DCall.z (Je2 c.lo _) ?_;simp only [push_cast,simprocAttr,U46])
 try (refine DCall.z (Je2 b.hi _) ?_;simp only [push_cast,simprocAttr,U46])
 exact AW.f U46 Tru
theorem Qx4 (b c:BX)(m:Ja1)(q:Bool)(hq:q=true↔Jq8 b c):Ctr Tryz.prog 124 [.agg (bxC b),.agg (bxC c)] m (.one (.bool q)) m:=by
 by_cases g0:c.hi 0<b.lo 0
 ·obtain rfl:q=false:=by
   cases q with
   | false=>rfl
   | true=>exact absurd g0 ((hq.1 rfl) 0 (by omega)).1
  exact Vh5 b c m g0
 by_cases g1:b.hi 0<c.lo 0
 ·obtain rfl:q=false:=by
   cases q with
   | false=>rfl
   | true=>exact absurd g1 ((hq.1 rfl) 0 (by omega)).2
  exact Vh4 b c m g0 g1
 by_cases g2:c.hi 1<b.lo 1
 ·obtain rfl:q=false:=by
   cases q with
   | false=>rfl
   | true=>exact absurd g2 ((hq.1 rfl) 1 (by omega)).1
  exact Vh3 b c m g0 g1 g2
 by_cases g3:b.hi 1<c.lo 1
 ·obtain rfl:q=false:=by
   cases q with
   | false=>rfl
   | true=>exact absurd g3 ((hq.1 rfl) 1 (by omega)).2
  exact Vh2 b c m g0 g1 g2 g3
 by_cases g4:c.hi 2<b.lo 2
 ·obtain rfl:q=false:=by
   cases q with
   | false=>rfl
   | true=>exact absurd g4 ((hq.1 rfl) 2 (by omega)).1
  exact Vh1 b c m g0 g1 g2 g3 g4
 by_cases g5:b.hi 2<c.lo 2
 ·obtain rfl:q=false:=by
   cases q with
   | false=>rfl
   | true=>exact absurd g5 ((hq.1 rfl) 2 (by omega)).2
  exact Vh0 b c m g0 g1 g2 g3 g4 g5
 obtain rfl:q=true:=hq.2 fun k hk=>by
  match k,hk with
  | 0,_=>exact ⟨g0,g1⟩
  | 1,_=>exact ⟨g2,g3⟩
  | 2,_=>exact ⟨g4,g5⟩
 exact Vg9 b c m g0 g1 g2 g3 g4 g5
theorem Xc1 (m:Ja1):Ctr Tryz.prog 180 [] m (.agg (bxC Vd0)) m:=by
 refine Ctr.en Tryz.func180 [.cell 0 232] 4 fun hwf Q hQ=>?_
 have hv:bxC Vd0=[.int .i64 (-2147483648),.int .i64 (-2147483648),.int .i64 (-2147483648),.int .i64 2147483648,.int .i64 2147483648,.int .i64 2147483648]:=rfl
 rw [hv] at hQ
 exact AW.f Tru Kv6
theorem Qx0 (M:MV)(m:Ja1)(h1:Jz7 (Jj3 M).a):Ctr Tryz.prog 101 [.agg (mvC M)] m (.agg (prC (Jz9 M))) m:=by
 refine Ctr.en Tryz.func101 [.cell 2 234] 42 fun hwf Q hQ=>?_
 have hv:Jz9 M=⟨Vd0,Vd0⟩:=by unfold Jz9;rw [if_pos (.inl h1)]
 rw [hv] at hQ
 have hp:Jj3 M=⟨Jc6 M.A,Jc6 ⟨M.A.kind,M.B.paint,M.B.P,M.B.r⟩⟩:=rfl
 have U1:=ca4 @Kv7 @Jv4 @Kb2 (ca2 @Je9 @Ja6)
 refine AW.wd [[.val,.rd 0,.ext,.val,.rd 0,.ext,.val,.fl,.wr],[.val,.val,.rd 0,.ext,.val,.val,.rd 0,.ext,.val,.val]] 4 U1 (ca3 (Jn1 M.A) (Jn1 ⟨M.A.kind,M.B.paint,M.B.P,M.B.r⟩) Kb9) ?_
 refine AW.q fun K J0=>?_
 refine AW.sr 1 fun K J1=>?_
 simp only [push_cast,simprocAttr,U1]
 refine CThen.by (Kj6 (Jc6 M.A) _ true ⟨fun _=>h1,fun _=>rfl⟩) ?_
 simp only [push_cast,simprocAttr,U1]
 exact AW.f U1 Xc1
theorem Qw9 (M:MV)(m:Ja1)(h1:¬Jz7 (Jj3 M).a)(h2:Jz7 (Jj3 M).b):Ctr Tryz.prog 101 [.agg (mvC M)] m (.agg (prC (Jz9 M))) m:=by
 refine Ctr.en Tryz.func101 [.cell 2 234] 42 fun hwf Q hQ=>?_
 have hv:Jz9 M=⟨Vd0,Vd0⟩:=by unfold Jz9;rw [if_pos (.inr (.inl h2))]
 rw [hv] at hQ
 have hp:Jj3 M=⟨Jc6 M.A,Jc6 ⟨M.A.kind,M.B.paint,M.B.P,M.B.r⟩⟩:=rfl
 have U2:=ca4 @Kv7 @Jv4 @Kb2 (ca2 @Je9 @Ja6)
 exact AW.fd [[.val,.rd 0,.ext,.val,.rd 0,.ext,.val,.fl,.wr],[.val,.val,.rd 0,.ext,.val,.val,.rd 0,.ext,.val,.val]] U2 (ca4 (Jn1 M.A) (Jn1 ⟨M.A.kind,M.B.paint,M.B.P,M.B.r⟩) Kb9 (ca3 (Kj6 (Jc6 M.A) _ false ⟨fun h=>(by cases h),fun h=>absurd h h1⟩) (Kj6 (Jc6 ⟨M.A.kind,M.B.paint,M.B.P,M.B.r⟩) _ true ⟨fun _=>h2,fun _=>rfl⟩) Xc1))
theorem Qw8 (M:MV)(m:Ja1)(h1:¬Jz7 (Jj3 M).a)(h2:¬Jz7 (Jj3 M).b)(h3:2147483648<=maxI (Jd0 M.A.r 8192) (Jd0 M.B.r 8192)):Ctr Tryz.prog 101 [.agg (mvC M)] m (.agg (prC (Jz9 M))) m:=by
 refine Ctr.en Tryz.func101 [.cell 2 234] 42 fun hwf Q hQ=>?_
 have hv:Jz9 M=⟨Vd0,Vd0⟩:=by unfold Jz9;rw [if_pos (.inr (.inr h3))]
 rw [hv] at hQ
 have hp:Jj3 M=⟨Jc6 M.A,Jc6 ⟨M.A.kind,M.B.paint,M.B.P,M.B.r⟩⟩:=rfl
 have U3:=ca4 @Kv7 @Jv4 @Kb2 (ca4 @Je9 @Ja6 h3 (ca2 @decide_true @decide_false))
 exact AW.fd [[.val,.rd 0,.ext,.val,.rd 0,.ext,.val,.fl,.wr],[.val,.val,.rd 0,.ext,.val,.val,.rd 0,.ext,.val,.val]] U3 (ca4 (Jn1 M.A) (Jn1 ⟨M.A.kind,M.B.paint,M.B.P,M.B.r⟩) Kb9 (ca3 (Kj6 (Jc6 M.A) _ false ⟨fun h=>(by cases h),fun h=>absurd h h1⟩) (Kj6 (Jc6 ⟨M.A.kind,M.B.paint,M.B.P,M.B.r⟩) _ false ⟨fun h=>(by cases h),fun h=>absurd h h2⟩) Xc1))
theorem Qw7 (M:MV)(m:Ja1)(h1:¬Jz7 (Jj3 M).a)(h2:¬Jz7 (Jj3 M).b)(h3:¬2147483648<=maxI (Jd0 M.A.r 8192) (Jd0 M.B.r 8192)):Ctr Tryz.prog 101 [.agg (mvC M)] m (.agg (prC (Jz9 M))) m:=by
 refine Ctr.en Tryz.func101 [.cell 2 234] 42 fun hwf Q hQ=>?_
 have hv:Jz9 M=Jj3 M:=by unfold Jz9;rw [if_neg (show ¬badM M from fun h=>h.elim h1 fun h=>h.elim h2 h3)]
 rw [hv] at hQ
 have hp:Jj3 M=⟨Jc6 M.A,Jc6 ⟨M.A.kind,M.B.paint,M.B.P,M.B.r⟩⟩:=rfl
 rw [hp] at hQ
 have U4:=ca4 @Kv7 @Jv4 @Kb2 (ca4 @Je9 @Ja6 h3 (ca2 @decide_true @decide_false))
 exact AW.fd [[.val,.rd 0,.ext,.val,.rd 0,.ext,.val,.fl,.wr],[.val,.val,.rd 0,.ext,.val,.val,.rd 0,.ext,.val,.val]] U4 (ca4 (Jn1 M.A) (Jn1 ⟨M.A.kind,M.B.paint,M.B.P,M.B.r⟩) Kb9 (ca2 (Kj6 (Jc6 M.A) _ false ⟨fun h=>(by cases h),fun h=>absurd h h1⟩) (Kj6 (Jc6 ⟨M.A.kind,M.B.paint,M.B.P,M.B.r⟩) _ false ⟨fun h=>(by cases h),fun h=>absurd h h2⟩)))
theorem Vg5 (M:MV)(m:Ja1):Ctr Tryz.prog 101 [.agg (mvC M)] m (.agg (prC (Jz9 M))) m:=by
 by_cases h1:Jz7 (Jj3 M).a
 ·exact Qx0 M m h1
 by_cases h2:Jz7 (Jj3 M).b
 ·exact Qw9 M m h1 h2
 by_cases h3:2147483648<=maxI (Jd0 M.A.r 8192) (Jd0 M.B.r 8192)
 ·exact Qw8 M m h1 h2 h3
 exact Qw7 M m h1 h2 h3
theorem Qq4 (a:V)(k:Nat)(hk:k<3)(m:Ja1):Ctr Tryz.prog 175 [.agg (c3C a),.one (.int .i64 ((k:Int)))] m (.one (.int .i64 (a k))) m :=
 match k,hk with
 | 0,_=>Jc0 a m
 | 1,_=>Jc7 a m
 | 2,_=>Je2 a m
theorem Qq0 (v:V)(m:Ja1)(g1:¬Jh5 (v 0)<Jh5 (v 1))(g2:¬Jh5 (v 0)<Jh5 (v 2)):Ctr Tryz.prog 253 [.agg (c3C v)] m (.one (.int .i64 ((Jf8 v:Int)))) m:=by
 refine Ctr.en Tryz.func253 [.tmp 2] 20 fun hwf Q hQ=>?_
 have hv:Jf8 v=0:=by unfold Jf8 Jw0;rw [if_neg g1];exact if_neg g2
 rw [hv] at hQ
 have U1:=ca4 @Ja6 g1 g2 (ca2 @decide_true @decide_false)
 refine AW.w 5 U1 Tru fun K J0=>?_
 refine AW.r 3 ?_
 exact AW.fd [[.rd 0,.val,.ext,.ext,.rd 0,.val,.ext,.ext,.val],[.rd 0,.val,.ext,.ext,.rd 0,.val,.ext,.ext,.val]] U1 (ca4 (Jc7 v) Ji6 (Jc0 v) (Je2 v))
theorem Qp9 (v:V)(m:Ja1)(g1:¬Jh5 (v 0)<Jh5 (v 1))(g2:Jh5 (v 0)<Jh5 (v 2)):Ctr Tryz.prog 253 [.agg (c3C v)] m (.one (.int .i64 ((Jf8 v:Int)))) m:=by
 refine Ctr.en Tryz.func253 [.tmp 2] 20 fun hwf Q hQ=>?_
 have hv:Jf8 v=2:=by unfold Jf8 Jw0;rw [if_neg g1];exact if_pos g2
 rw [hv] at hQ
 have U2:=ca4 @Ja6 g1 g2 (ca2 @decide_true @decide_false)
 refine AW.w 5 U2 Tru fun K J0=>?_
 refine AW.r 3 ?_
 exact AW.fd [[.rd 0,.val,.ext,.ext,.rd 0,.val,.ext,.ext,.val],[.rd 0,.val,.ext,.ext,.rd 0,.val,.ext,.ext,.val]] U2 (ca4 (Jc7 v) Ji6 (Jc0 v) (Je2 v))
theorem Qp8 (v:V)(m:Ja1)(g1:Jh5 (v 0)<Jh5 (v 1))(g2:¬Jh5 (v 1)<Jh5 (v 2)):Ctr Tryz.prog 253 [.agg (c3C v)] m (.one (.int .i64 ((Jf8 v:Int)))) m:=by
 refine Ctr.en Tryz.func253 [.tmp 2] 20 fun hwf Q hQ=>?_
 have hv:Jf8 v=1:=by unfold Jf8 Jw0;rw [if_pos g1];exact if_neg g2
 rw [hv] at hQ
 have U3:=ca4 @Ja6 g1 g2 (ca2 @decide_true @decide_false)
 refine AW.w 5 U3 Tru fun K J0=>?_
 refine AW.r 3 ?_
 exact AW.fd [[.rd 0,.val,.ext,.ext,.rd 0,.val,.ext,.ext,.val],[.rd 0,.val,.ext,.ext,.rd 0,.val,.ext,.ext,.val]] U3 (ca4 (Jc7 v) Ji6 (Jc0 v) (Je2 v))
theorem Qp7 (v:V)(m:Ja1)(g1:Jh5 (v 0)<Jh5 (v 1))(g2:Jh5 (v 1)<Jh5 (v 2)):Ctr Tryz.prog 253 [.agg (c3C v)] m (.one (.int .i64 ((Jf8 v:Int)))) m:=by
 refine Ctr.en Tryz.func253 [.tmp 2] 20 fun hwf Q hQ=>?_
 have hv:Jf8 v=2:=by unfold Jf8 Jw0;rw [if_pos g1];exact if_pos g2
 rw [hv] at hQ
 have U4:=ca4 @Ja6 g1 g2 (ca2 @decide_true @decide_false)
 refine AW.w 5 U4 Tru fun K J0=>?_
 refine AW.r 3 ?_
 exact AW.fd [[.rd 0,.val,.ext,.ext,.rd 0,.val,.ext,.ext,.val],[.rd 0,.val,.ext,.ext,.rd 0,.val,.ext,.ext,.val]] U4 (ca4 (Jc7 v) Ji6 (Jc0 v) (Je2 v))
theorem Qb7 (v:V)(m:Ja1):Ctr Tryz.prog 253 [.agg (c3C v)] m (.one (.int .i64 ((Jf8 v:Int)))) m:=by
 by_cases g1:Jh5 (v 0)<Jh5 (v 1)
 ·by_cases g2:Jh5 (v 1)<Jh5 (v 2)
  ·exact Qp7 v m g1 g2
  exact Qp8 v m g1 g2
 by_cases g2:Jh5 (v 0)<Jh5 (v 2)
 ·exact Qp9 v m g1 g2
 exact Qq0 v m g1 g2
theorem Xe6 (x low wide:Int)(m:Ja1):Ctr Tryz.prog 254 [.one (.int .i64 x),.one (.int .i64 low),.one (.int .i64 wide)] m (.one (.int .i64 (binI x low wide))) m:=by
 refine Ctr.en Tryz.func254 [.tmp 6] 15 fun hwf Q hQ=>?_
 have hv:binI x low wide=minI (Ja2 (Jd2 524288 (Jg9 (Jf3 x low) wide)) / 65536) 7:=rfl
 rw [hv] at hQ
 exact AW.f Tru (ca4 Kd5 Ju0 Jm1 Vs0)
structure IdsAt (m:Ja1)(r v a:Nat)(l:List Nat)(N:Nat):Prop where
 hb:∃ k ez cs,m[r]?=some ⟨k,3,v,ez,cs⟩/\a+l.length<=cs.length/\∀ i,i<l.length->cs[a+i]?=some (.int .i64 ((l.getD i 0:Nat):Int))
 lt:∀ i,i<l.length->l.getD i 0<N
 n:l.length<=128
theorem IdsAt.app {m:Ja1}{r v a:Nat}{l:List Nat}{N:Nat}(h:IdsAt m r v a l N)(L:Ja1):IdsAt (m++L) r v a l N:=⟨by obtain ⟨k,ez,cs,h1,h2⟩:=h.hb;exact ⟨k,ez,cs,Ja3 h1 L,h2⟩,h.lt,h.n⟩
def prF (prs:Nat->PR)(i:Nat):List CV:=prC (prs i)
theorem Qv1 (prs:Nat->PR)(i:Nat):prF prs i=[.int .i64 ((prs i).a.lo 0),.int .i64 ((prs i).a.lo 1),.int .i64 ((prs i).a.lo 2),.int .i64 ((prs i).a.hi 0),.int .i64 ((prs i).a.hi 1),.int .i64 ((prs i).a.hi 2),.int .i64 ((prs i).b.lo 0),.int .i64 ((prs i).b.lo 1),.int .i64 ((prs i).b.lo 2),.int .i64 ((prs i).b.hi 0),.int .i64 ((prs i).b.hi 1),.int .i64 ((prs i).b.hi 2)]:=rfl
structure MkAt (m:Ja1)(w:Nat)(c0 c1:CV)(pb pv N mb mv:Nat)(prs:Nat->PR)(mid:Nat->V):Prop where
 hw:m[w]?=some ⟨.fix,314,0,0,[c0,c1,.sl pb pv 0 N,.sl mb mv 0 N]⟩
 hp:∃ k ez,m[pb]?=some ⟨k,234,pv,ez,Jb0 N (prF prs)⟩
 hm:∃ k ez,m[mb]?=some ⟨k,59,mv,ez,Jb0 N (vF mid)⟩
 n:N<=128
theorem MkAt.app {m:Ja1}{w:Nat}{c0 c1:CV}{pb pv N mb mv:Nat}{prs:Nat->PR}{mid:Nat->V}(h:MkAt m w c0 c1 pb pv N mb mv prs mid)(L:Ja1):MkAt (m++L) w c0 c1 pb pv N mb mv prs mid:=⟨Ja3 h.hw L,by obtain ⟨k,e,h1⟩:=h.hp;exact ⟨k,e,Ja3 h1 L⟩,by obtain ⟨k,e,h1⟩:=h.hm;exact ⟨k,e,Ja3 h1 L⟩,h.n⟩
theorem Qa9 (prs:Nat->PR)(l:List Nat){i:Nat}(h:i+1<l.length):Jb7 prs (l.take (i+1+1))=Kx6 (Jb7 prs (l.take (i+1))) (prs (l.getD (i+1) 0)):=by
 match l,h with
 | x::t,h =>
  have h:i<t.length:=by simpa using h
  have e:t.take (i+1)=t.take i++[t.getD i 0]:=by rw [List.take_add_one,List.getD_eq_getElem?_getD,List.getElem?_eq_getElem h];rfl
  show List.foldl _ _ (t.take (i+1))=Kx6 (List.foldl _ _ (t.take i)) (prs (t.getD i 0))
  rw [e,List.foldl_append];rfl
theorem Qc4 (b:BX):-2147483648<=Kt7 b/\Kt7 b<=2147483648:=Jc3 _
theorem Kg1 (w:Nat)(c0 c1:CV)(pb pv N mb mv:Nat)(prs:Nat->PR)(mid:Nat->V)(r v a:Nat)(l:List Nat)(m:Ja1)(hM:MkAt m w c0 c1 pb pv N mb mv prs mid)(hI:IdsAt m r v a l N)(h0:0<l.length):Ctr Tryz.prog 227 [.one (.ptr w 0 0),.one (.sl r v a l.length)] m (.agg (prC (Jb7 prs l))) m:=by
 refine Ctr.en Tryz.func227 [.cell 4 234] 36 fun hwf Q hQ=>?_
 have hw:=hM.hw
 obtain ⟨kp,ep,hp⟩:=hM.hp
 obtain ⟨ki,ei,cs,hb,hcl,hcs⟩:=hI.hb
 have lw:=Ja8 hw
 have lp:=Ja8 hp
 have lb:=Ja8 hb
 have hn:=hI.n
 have hN:=hM.n
 have pl:(Jb0 N (prF prs)).length=N*12:=Ja5 (w:=12) (F:=prF prs) (fun _=>rfl) _
 have z1:cs[a]?=some (.int .i64 ((l.getD 0 0:Nat):Int)):=hcs 0 h0
 have y0:l.getD 0 0<N:=hI.lt 0 h0
 obtain ⟨x0,hx0⟩:∃ x,x=l.getD 0 0:=⟨_,rfl⟩
 rw [<-hx0] at z1 y0
 have y1:(0:Int)<=(x0:Int):=by omega
 have y2:(x0:Int)<(N:Int):=by omega
 have y3:x0*12+12<=N*12:=by omega
 have ga0:=Jb5 (w:=12) (F:=prF prs) (fun _=>rfl) y0
 have gx0:=Qv1 prs x0
 have n1:1<=l.length:=h0
 have n2:(0:Int)<(l.length:Int):=by omega
 have n3:(1:Int)<=(l.length:Int):=by omega
 have n4:(l.length:Int)<=(l.length:Int):=Int.le_refl _
 have ha1:Jb7 prs (l.take (0+1))=prs x0:=by
   match l,h0,hx0 with
   | x::t,_,e=>subst e;rfl
 have hlt0:∀ k,¬m.length+k<m.length:=fun k=>by omega
 have U5:=ca4 hw (Ja3 hw) hp (ca4 (Ja3 hp) hb (Ja3 hb) (ca4 pl z1 y1 (ca4 y2 y3 ga0 (ca4 gx0 n1 n2 (ca2 n3 n4)))))
 refine AW.wd [[.val,.val,.val,.rd 0,.val,.val,.rd 0,.val,.rd 0,.ext,.wr]] 5 U5 Tru fun K J0=>?_
 refine AW.lk [0,4,5,18,19] (fun i=>i+1<=l.length) (fun i=>[(20,.one (.int .i64 (i:Int)))]) (fun i=>[(m.length+1,⟨.fix,234,0,0,prC (Jb7 prs (l.take (i+1)))⟩)]) (fun i=>l.length - i) 0 U5 (ca4 @Int.natCast_zero ha1 @Kb2 (ca2 @Je9 @Ja6)) (fun i hi2=>?_)
 refine AW.w 2 U5 Tru fun K J1=>?_
 refine AW.cond rfl (fun h21=>?_) (fun h21=>?_)
 ·have hlt:i+1<l.length:=by have:=of_decide_eq_true h21;omega
  have hcx:cs[a+(1+i)]?=some (.int .i64 ((l.getD (i+1) 0:Nat):Int)):=by rw [show 1+i=i+1 by omega];exact hcs (i+1) hlt
  have hcy:cs[a+(i+1)]?=some (.int .i64 ((l.getD (i+1) 0:Nat):Int)):=hcs (i+1) hlt
  have hstep:=Qa9 prs l hlt
  have x1:l.getD (i+1) 0<N:=hI.lt _ hlt
  obtain ⟨x,hx⟩:∃ x,x=l.getD (i+1) 0:=⟨_,rfl⟩
  rw [<-hx] at hcx hcy x1 hstep
  obtain ⟨Z,hZ⟩:∃ Z,Z=Jb7 prs (l.take (i+1)):=⟨_,rfl⟩
  rw [<-hZ] at hstep
  have x2:(0:Int)<=(x:Int):=by omega
  have x3:(x:Int)<(N:Int):=by omega
  have x4:x*12+12<=N*12:=by omega
  have gax:=Jb5 (w:=12) (F:=prF prs) (fun _=>rfl) x1
  have gxx:=Qv1 prs x
  have c1:(0:Int)<=(i:Int):=by omega
  have c2:(i:Int)<((l.length - 1:Nat):Int):=by omega
  have c4:(i:Int)<(l.length:Int) - 1:=by omega
  have c5:i<l.length - 1:=by omega
  refine AW.w 4 Tru Tru fun K J1=>?_
  have U6:=ca4 U5 hcx hcy (ca4 x2 x3 x4 (ca4 gax gxx c1 (ca4 c2 c4 c5 (ca4 @Kb2 @Je9 @Ja6 hZ.symm))))
  refine AW.c 1 U6 Tru ?_
  refine AW.draw [.rd 0,.val,.val,.val,.rd 0,.val,.val,.rd 0,.ext,.ext,.wr] fol (by decide) (by kernel_rfl) ?_
  simp only [push_cast,simprocAttr,U6]
  refine DExt.by (by first|rfl|exact (List.append_nil _).symm|(simp only [List.append_assoc,List.cons_append,List.nil_append];rfl)) ?_
  simp only [push_cast,simprocAttr,U6]
  refine DCall.z (Xn5 Z (prs x) _ 0 _ ⟨.grow,12,by simp only [push_cast,simprocAttr];rfl⟩) ?_
  simp only [push_cast,simprocAttr,U6]
  refine AW.w 2 U6 Tru ?_
  have hwi:IntKind.i64.wrap ((i:Int)+1)=(i:Int)+1:=wi (by omega)
  exact Wj (i+1) U6 (ca2 hwi hstep) Tru
 have hin:i+1=l.length:=by have:=of_decide_eq_false h21;omega
 have hfin:Jb7 prs (l.take (i+1))=Jb7 prs l:=by rw [hin,List.take_length]
 rw [hfin]
 refine AW.w 2 Tru Tru ?_
 have U7:=ca4 U5 @Kb2 @Je9 @Ja6
 exact AW.f U7 Tru
theorem Qr4 (w:Nat)(c0 c1:CV)(pb pv N mb mv:Nat)(prs:Nat->PR)(mid:Nat->V)(r v a:Nat)(l:List Nat)(m:Ja1)(hM:MkAt m w c0 c1 pb pv N mb mv prs mid)(hI:IdsAt m r v a l N)(h0:0<l.length):Ctr Tryz.prog 255 [.one (.ptr w 0 0),.one (.sl r v a l.length)] m (.one (.int .i64 (Jm4 prs l))) m:=by
 refine Ctr.en Tryz.func255 [.tmp 4] 13 fun hwf Q hQ=>?_
 have hv:Jm4 prs l=(l.length:Int)*Kt7 (Jn4 (Jb7 prs l)):=rfl
 rw [hv] at hQ
 have hn:=hI.n
 have hsb:=Qc4 (Jn4 (Jb7 prs l))
 have hwr:IntKind.i64.wrap ((l.length:Int)*Kt7 (Jn4 (Jb7 prs l)))=(l.length:Int)*Kt7 (Jn4 (Jb7 prs l)):=wi (by have q1:=Int.mul_le_mul_of_nonneg_left hsb.1 (show 0<=(l.length:Int) by omega);have q2:=Int.mul_le_mul_of_nonneg_left hsb.2 (show 0<=(l.length:Int) by omega);omega)
 exact AW.f hwr (ca3 (Kg1 w c0 c1 pb pv N mb mv prs mid r v a l _ hM hI h0) (Qd8 (Jb7 prs l)) (Xf1 (Jn4 (Jb7 prs l))))
def iC (l:List Nat):List CV:=l.map fun (i:Nat)=>CV.int .i64 (i:Int)
theorem Jf5 (l:List Nat):(iC l).length=l.length:=List.length_map _
theorem Jt5 (l:List Nat)(x:Nat):iC l++[.int .i64 (x:Int)]=iC (l++[x]):=by unfold iC;rw [List.map_append];rfl
theorem Ko7 (a b:List Nat):iC a++iC b=iC (a++b):=by unfold iC;rw [List.map_append]
theorem Ko6 {l:List Nat}{i:Nat}(h:i<l.length):(iC l)[i]?=some (.int .i64 ((l.getD i 0:Nat):Int)):=by
 unfold iC;rw [List.getElem?_map,List.getD_eq_getElem?_getD,List.getElem?_eq_getElem h];rfl
theorem Qf3 (l:List Nat):(iC l).all CV.isVal=true:=by unfold iC;rw [List.all_map];exact List.all_eq_true.2 fun _ _=>rfl
theorem Jf4 (l:List Nat)(n:Nat):(iC l).all (CV.below n)=true:=by unfold iC;rw [List.all_map];exact List.all_eq_true.2 fun _ _=>rfl
theorem Js9 {o:List Nat}{a b i:Nat}(h:a+i<b):(Ji2 o a b).getD i 0=o.getD (a+i) 0:=by
 rw [List.getD_eq_getElem?_getD,List.getD_eq_getElem?_getD]
 have:=Jx9 (o:=o) (a:=a) (b:=b) (x:=a+i) (by omega) h
 rw [Nat.add_sub_cancel_left] at this;rw [this]
theorem Kp7 {m:Ja1}{r v N:Nat}{o:List Nat}{a b:Nat}(hb:∃ k ez,m[r]?=some ⟨k,3,v,ez,iC o⟩)(h1:a<=b)(h2:b<=o.length)(ho:∀ x,x<o.length->o.getD x 0<N)(hn:o.length<=128):IdsAt m r v a (Ji2 o a b) N where
 hb:=by
  obtain ⟨k,ez,h⟩:=hb
  have e:=Jd9 (a:=a) h2
  refine ⟨k,ez,iC o,h,by rw [Jf5];omega,fun i hi=>?_⟩
  rw [Js9 (by omega),Ko6 (by omega)]
 lt:=fun i hi=>by rw [Js9 (by rw [Jd9 h2] at hi;omega)];exact ho _ (by rw [Jd9 h2] at hi;omega)
 n:=by rw [Jd9 h2];omega
theorem Qg1 {m:Ja1}{r v N:Nat}{l:List Nat}(hb:∃ k ez,m[r]?=some ⟨k,3,v,ez,iC l⟩)(hl:∀ x,x<l.length->l.getD x 0<N)(hn:l.length<=128):IdsAt m r v 0 l N where
 hb:=by
  obtain ⟨k,ez,h⟩:=hb
  refine ⟨k,ez,iC l,h,by rw [Jf5];omega,fun i hi=>?_⟩
  rw [Nat.zero_add,Ko6 hi]
 lt:=hl
 n:=hn
theorem Vi0 (mid:Nat->V){l:List Nat}(h:0<l.length):Vp8 (mid (l.getD 0 0)) (fun j=>mid (l.getD (1+j) 0)) (l.length - 1)=Jz1 mid l:=by
 match l,h with
 | x::t,_ =>
  show Vp8 (mid x) (fun j=>mid ((x::t).getD (1+j) 0)) t.length=List.foldl (fun a j=>fun k=>minI (a k) (mid j k)) (mid x) t
  have e:(fun j=>mid ((x::t).getD (1+j) 0))=fun j=>mid (t.getD j 0):=by funext j;rw [show 1+j=j+1 by omega];rfl
  rw [e]
  have g:∀ i,i<=t.length->Vp8 (mid x) (fun j=>mid (t.getD j 0)) i=List.foldl (fun a j=>fun k=>minI (a k) (mid j k)) (mid x) (t.take i):=by
   intro i
   induction i with
   | zero=>intro _;rfl
   | succ i ih =>
    intro hi
    have et:t.take (i+1)=t.take i++[t.getD i 0]:=by rw [List.take_add_one,List.getD_eq_getElem?_getD,List.getElem?_eq_getElem (show i<t.length by omega)];rfl
    rw [et,List.foldl_append,<-ih (by omega)];rfl
  rw [g _ (Nat.le_refl _),List.take_length]
theorem Vx4 (mid:Nat->V){l:List Nat}(h:0<l.length):Vq0 (mid (l.getD 0 0)) (fun j=>mid (l.getD (1+j) 0)) (l.length - 1)=Qx2 mid l:=by
 match l,h with
 | x::t,_ =>
  show Vq0 (mid x) (fun j=>mid ((x::t).getD (1+j) 0)) t.length=List.foldl (fun a j=>fun k=>maxI (a k) (mid j k)) (mid x) t
  have e:(fun j=>mid ((x::t).getD (1+j) 0))=fun j=>mid (t.getD j 0):=by funext j;rw [show 1+j=j+1 by omega];rfl
  rw [e]
  have g:∀ i,i<=t.length->Vq0 (mid x) (fun j=>mid (t.getD j 0)) i=List.foldl (fun a j=>fun k=>maxI (a k) (mid j k)) (mid x) (t.take i):=by
   intro i
   induction i with
   | zero=>intro _;rfl
   | succ i ih =>
    intro hi
    have et:t.take (i+1)=t.take i++[t.getD i 0]:=by rw [List.take_add_one,List.getD_eq_getElem?_getD,List.getElem?_eq_getElem (show i<t.length by omega)];rfl
    rw [et,List.foldl_append,<-ih (by omega)];rfl
  rw [g _ (Nat.le_refl _),List.take_length]
def lfN (mid:Nat->V)(l:List Nat)(c i:Nat):List Nat:=(l.take i).filter (Kw4 mid l c)
def rgN (mid:Nat->V)(l:List Nat)(c i:Nat):List Nat:=(l.take i).filter fun x=>!Kw4 mid l c x
theorem Kt4 {l:List Nat}{i:Nat}(h:i<l.length):l.take (i+1)=l.take i++[l.getD i 0]:=by rw [List.take_add_one,List.getD_eq_getElem?_getD,List.getElem?_eq_getElem h];rfl
theorem lf_t {mid:Nat->V}{l:List Nat}{c i:Nat}(h:i<l.length)(g:Kw4 mid l c (l.getD i 0)=true):lfN mid l c (i+1)=lfN mid l c i++[l.getD i 0]/\rgN mid l c (i+1)=rgN mid l c i:=by
 unfold lfN rgN
 rw [Kt4 h,List.filter_append,List.filter_append]
 generalize l.getD i 0=x at g ⊢
 simp [g]
theorem lf_f {mid:Nat->V}{l:List Nat}{c i:Nat}(h:i<l.length)(g:Kw4 mid l c (l.getD i 0)=false):lfN mid l c (i+1)=lfN mid l c i/\rgN mid l c (i+1)=rgN mid l c i++[l.getD i 0]:=by
 unfold lfN rgN
 rw [Kt4 h,List.filter_append,List.filter_append]
 generalize l.getD i 0=x at g ⊢
 simp [g]
theorem Vq2 (mid:Nat->V)(l:List Nat)(c:Nat):lfN mid l c l.length=Jd6 mid l c/\rgN mid l c l.length=Jc8 mid l c:=by
 unfold lfN rgN;rw [List.take_length];exact ⟨rfl,rfl⟩
theorem Vh7 (mid:Nat->V)(l:List Nat)(c i:Nat):(lfN mid l c i).length<=l.length/\(rgN mid l c i).length<=l.length :=
 ⟨Nat.le_trans (List.length_filter_le _ _) (by rw [List.length_take];omega),Nat.le_trans (List.length_filter_le _ _) (by rw [List.length_take];omega)⟩
theorem Vj2 {l:List Nat}{i:Nat}(h:i<l.length):l.getD i 0 ∈ l:=by rw [List.getD_eq_getElem?_getD,List.getElem?_eq_getElem h];exact List.getElem_mem h
theorem Kw0 {l:List Nat}{N:Nat}{p:Nat->Bool}(h:∀ i,i<l.length->l.getD i 0<N):∀ i,i<(l.filter p).length->(l.filter p).getD i 0<N:=fun i hi=>by
 have h1:=(List.mem_filter.1 (Vj2 hi)).1
 obtain ⟨k,hk,e⟩:=List.getElem_of_mem h1
 have:=h k hk
 rw [List.getD_eq_getElem?_getD,List.getElem?_eq_getElem hk] at this
 rw [<-e];exact this
def BstAt (M:Ja1):Option (List Nat × Nat × Int)->CV->Int->Int->Prop
 | none,x,k,y=>x=.nils/\k=0/\y=0
 | some (b,n,c),x,k,y=>0<b.length/\b.length<=128/\k=(n:Int)/\y=c/\∃ rb vb kk ez,x=.sl rb vb 0 b.length/\M[rb]?=some ⟨kk,3,vb,ez,iC b⟩
structure SpQ where
 (c:Nat) (x:CV) (k y:Int) (M:Ja1)
structure SpI (m1:Ja1)(st:Nat->Option (List Nat × Nat × Int))(q:SpQ):Prop where
 c1:1<=q.c
 c8:q.c<=8
 hM:∃ L,q.M=m1++L
 wf:MWf q.M.length q.M
 hb:BstAt q.M (st (q.c - 1)) q.x q.k q.y
theorem BstAt.bel {M:Ja1}{b:Option (List Nat × Nat × Int)}{x:CV}{k y:Int}(h:BstAt M b x k y):∀ n,M.length<=n->CV.below n x=true:=fun n hn=>by
 match b,h with
 | none,h=>rw [h.1];rfl
 | some (b,n',c),h =>
  obtain ⟨h1,h2,h3,h4,rb,vb,kk,ez,h5,h6⟩:=h
  have:=Ja8 h6
  rw [h5];simp [CV.below];omega
theorem BstAt.app {M:Ja1}{b:Option (List Nat × Nat × Int)}{x:CV}{k y:Int}(h:BstAt M b x k y)(L:Ja1):BstAt (M++L) b x k y:=by
 match b,h with
 | none,h=>exact h
 | some (b,n,c),h =>
  obtain ⟨h1,h2,h3,h4,rb,vb,kk,ez,h5,h6⟩:=h
  exact ⟨h1,h2,h3,h4,rb,vb,kk,ez,h5,Ja3 h6 L⟩
theorem Xh6 (mid:Nat->V)(l:List Nat)(r v:Nat)(m:Ja1)(h0:0<l.length)(hn:l.length<=128)(hb:∃ k ez,m[r]?=some ⟨k,59,v,ez,Jb0 l.length (vF fun j=>mid (l.getD j 0))⟩):Ctr Tryz.prog 193 [.agg (c3C (mid (l.getD 0 0))),.one (.sl r v 3 (l.length - 1))] m (.agg (bxC (⟨Jz1 mid l,Qx2 mid l⟩))) m:=by
 have h:=Xb4 (mid (l.getD 0 0)) (fun j=>mid (l.getD j 0)) r v 1 (l.length - 1) l.length m hb (by omega) (by omega)
 rw [Vi0 mid h0,Vx4 mid h0] at h
 exact h
theorem Qs1 (mid:Nat->V)(l:List Nat)(m:Ja1):Ctr Tryz.prog 252 [.agg (bxC (⟨Jz1 mid l,Qx2 mid l⟩))] m (.agg (c3C (Jo1 mid l))) m:=Va6 ⟨Jz1 mid l,Qx2 mid l⟩ m
theorem Vd9 (w:Nat)(c0 c1:CV)(pb pv N mb mv:Nat)(prs:Nat->PR)(mid:Nat->V)(r v a b ez:Nat)(o l:List Nat)(m:Ja1)(hM:MkAt m w c0 c1 pb pv N mb mv prs mid)(hb:m[r]?=some ⟨.grow,3,v,ez,iC o⟩)(hab:a<b)(hbo:b<=o.length)(ho:∀ x,x<o.length->o.getD x 0<N)(hol:o.length<=128)(hl:Ji2 o a b=l)(hwd:Jo1 mid l (Jf8 (Jo1 mid l))<=0):Ctr Tryz.prog 228 [.one (.ptr w 0 0),.one (.sl r v a l.length)] m (.one (.int .i64 ((l.length / 2:Nat):Int))) m:=by
 refine Ctr.en Tryz.func228 [.tmp 4] 131 fun hwf Q hQ=>?_
 have hw:=hM.hw
 obtain ⟨kmi,emi,hmi⟩:=hM.hm
 have hN:=hM.n
 have hI:IdsAt m r v a l N:=by rw [<-hl];exact Kp7 ⟨_,_,hb⟩ (by omega) hbo ho hol
 have hn:=hI.n
 have h0:0<l.length:=by rw [<-hl,Jd9 hbo];omega
 have hcs:∀ i,i<l.length->(iC o)[a+i]?=some (.int .i64 ((l.getD i 0:Nat):Int)):=fun i hi=>by
   have e:=Jd9 (a:=a) hbo
   rw [hl] at e
   rw [Ko6 (by omega),<-hl,Js9 (by omega)]
 have hcl:a+l.length<=(iC o).length:=by rw [Jf5,<-hl,Jd9 hbo];omega
 have lw:=Ja8 hw
 have lm:=Ja8 hmi
 have lb:=Ja8 hb
 have ml:(Jb0 N (vF mid)).length=N*3:=Ja5 (w:=3) (F:=vF mid) (fun _=>rfl) _
 have pl:(Jb0 l.length (vF fun j=>mid (l.getD j 0))).length=l.length*3:=Ja5 (w:=3) (F:=vF fun j=>mid (l.getD j 0)) (fun _=>rfl) _
 have ga0:List.take 3 (Jb0 l.length (vF fun j=>mid (l.getD j 0)))=[.int .i64 (mid (l.getD 0 0) 0),.int .i64 (mid (l.getD 0 0) 1),.int .i64 (mid (l.getD 0 0) 2)]:=Jb5 (w:=3) (F:=vF fun j=>mid (l.getD j 0)) (fun _=>rfl) h0
 have n1:(1:Int)<=(l.length:Int):=by omega
 have n2:(0:Int)<(l.length:Int):=by omega
 have n4:(l.length:Int)<=(l.length:Int):=Int.le_refl _
 have n5:3<=l.length*3:=by omega
 have hd2:(l.length:Int).tdiv 2=((l.length / 2:Nat):Int):=by rw [Int.tdiv_eq_ediv_of_nonneg (by omega)];omega
 have hw2:IntKind.i64.wrap ((l.length / 2:Nat):Int)=((l.length / 2:Nat):Int):=wi (by omega)
 have hw3:IntKind.i64.wrap ((l.length:Int) / 2)=((l.length / 2:Nat):Int):=by rw [show (l.length:Int) / 2=((l.length / 2:Nat):Int) by omega];exact hw2
 have hlt0:∀ k,¬m.length+k<m.length:=fun k=>by omega
 have U1:=ca4 hw (Ja3 hw) hmi (ca4 (Ja3 hmi) hb (Ja3 hb) (ca4 ml pl ga0 (ca4 n1 n2 n4 (ca4 n5 @Je9 @Ja6 (ca4 hd2 hw2 hw3 hwd)))))
 refine AW.w 5 U1 Tru fun K J0=>?_
 refine AW.nilTm 59 3 5 rfl ?_
 try simp only [push_cast,simprocAttr,U1]
 refine AW.loopK [0,1,22,23] (fun i=>i<=l.length) (fun i=>[(5,.one (.sl m.length i 0 i)),(24,.one (.int .i64 (i:Int)))]) (fun i=>[(m.length,⟨.grow,59,i,3,Jb0 i (vF fun j=>mid (l.getD j 0))⟩)]) (fun i=>l.length - i) 0 (by omega) ?_ ?_ fun i hi2=>?_
 · first|rfl|(simp only [KS,simprocAttr,Jb0,Int.natCast_zero]<;>repeat' (first|rfl|apply And.intro))
 · (simp only [Ja4,push_cast,simprocAttr,Jb0])<;>rfl
 try simp only [Jb3,Ja4,push_cast,simprocAttr,U1]
 refine AW.w 2 U1 Tru fun K J1=>?_
 refine AW.cond rfl (fun h25=>?_) (fun h25=>?_)
 ·have hlt:i<l.length:=by have:=of_decide_eq_true h25;omega
  have c1:(0:Int)<=(i:Int):=by omega
  have c2:(i:Int)<(l.length:Int):=by omega
  have hcx:=hcs i hlt
  have x1:l.getD i 0<N:=hI.lt _ hlt
  obtain ⟨x9,hx9⟩:∃ x,x=l.getD i 0:=⟨_,rfl⟩
  rw [<-hx9] at hcx x1
  have x2:(0:Int)<=(x9:Int):=by omega
  have x3:(x9:Int)<(N:Int):=by omega
  have x4:x9*3+3<=N*3:=by omega
  have gax:=Jb5 (w:=3) (F:=vF mid) (fun _=>rfl) x1
  have gxx:=Qq6 mid x9
  have c3:a+i+1<=(iC o).length:=by omega
  have c1:(0:Int)<=(i:Int):=by omega
  have c2:(i:Int)<(l.length:Int):=by omega
  have q1:i<=140737488355327:=by omega
  have q2:(i+1)*24<=140737488355328:=by omega
  have gli:(Jb0 i (vF fun j=>mid (l.getD j 0))).length=i*3:=Ja5 (w:=3) (F:=vF fun j=>mid (l.getD j 0)) (fun _=>rfl) i
  have hap:Jb0 i (vF fun j=>mid (l.getD j 0))++[.int .i64 (mid x9 0),.int .i64 (mid x9 1),.int .i64 (mid x9 2)]=Jb0 (i+1) (vF fun j=>mid (l.getD j 0)):=by rw [hx9];rfl
  refine AW.w 4 Tru Tru fun K J1=>?_
  have U2:=ca4 U1 hcx x2 (ca4 x3 x4 gax (ca4 gxx c1 c2 (ca4 c3 q1 q2 (ca2 gli hlt))))
  refine AW.w 4 U2 Tru ?_
  have hwi:IntKind.i64.wrap ((i:Int)+1)=(i:Int)+1:=wi (by omega)
  refine ⟨i+1,by omega,by omega,?_⟩
  try simp only [Jb3,Ja4,push_cast,simprocAttr,U2,hwi,hap]
  exact Weak.to (extra:=_) (by simp only [KS,simprocAttr,hwi,hap]) (by first|rfl|(simp only [List.append_assoc,List.cons_append,List.nil_append];rfl)) (by first|rfl|(simp [AV.below,CV.below];done)|(simp [AV.below,CV.below];omega)) (by exact MWf.app (hwf.grow (by simp)) (Ja0 (Jb4 _ (fun _=>rfl) _) Jb1))
 have hin:i=l.length:=by have:=of_decide_eq_false h25;omega
 rw [hin]
 refine AW.w 2 Tru Tru ?_
 refine AW.q fun K J0=>?_
 refine AW.draw [.val,.val,.rd 0,.val,.val,.ext,.fl,.wr] fol (by decide) (by kernel_rfl) ?_
 simp only [push_cast,simprocAttr,U1]
 refine DCall.z (Xh6 mid l m.length l.length _ h0 hn ⟨.grow,3,by rw [Jj9];rfl⟩) ?_
 simp only [push_cast,simprocAttr,U1]
 exact AW.fd [[.val,.rd 0,.val,.ext,.rd 0,.val,.ext,.val,.val]] U1 (ca4 (Qs1 mid l) (Qb7 (Jo1 mid l)) (Qq4 (Jz1 mid l) (Jf8 (Jo1 mid l)) (Js7 _)) (Qq4 (Jo1 mid l) (Jf8 (Jo1 mid l)) (Js7 _)))
theorem Kx5 {M:Ja1}{st:Option (List Nat × Nat × Int)}{x:CV}{k y:Int}(h:BstAt M st x k y)(D:Int) :
  (st=none/\x=.nils/\k=0/\y=0) \/
  (∃ (bb:List Nat) (bn:Nat) (bc:Int) (rb vb:Nat) (kk:BK) (ez:Nat),st=some (bb,bn,bc)/\x=.sl rb vb 0 bb.length/\0<bb.length/\bb.length<=128/\k=(bn:Int)/\y=bc/\M[rb]?=some ⟨kk,3,vb,ez,iC bb⟩/\D<bc) \/
  (∃ (bb:List Nat) (bn:Nat) (bc:Int) (rb vb:Nat) (kk:BK) (ez:Nat),st=some (bb,bn,bc)/\x=.sl rb vb 0 bb.length/\0<bb.length/\bb.length<=128/\k=(bn:Int)/\y=bc/\M[rb]?=some ⟨kk,3,vb,ez,iC bb⟩/\¬D<bc):=by
 match st,h with
 | none,h=>exact .inl ⟨rfl,h⟩
 | some (bb,bn,bc),h =>
  obtain ⟨h1,h2,h3,h4,rb,vb,kk,ez,h5,h6⟩:=h
  by_cases g:D<bc
  ·exact .inr (.inl ⟨bb,bn,bc,rb,vb,kk,ez,rfl,h5,h1,h2,h3,h4,h6,g⟩)
  exact .inr (.inr ⟨bb,bn,bc,rb,vb,kk,ez,rfl,h5,h1,h2,h3,h4,h6,g⟩)
theorem Va1 (prs:Nat->PR)(mid:Nat->V)(l:List Nat){c:Nat}(h:1<=c):Jn0 prs mid l c=Vm5 prs mid l c (Jn0 prs mid l (c - 1)):=by
 obtain ⟨d,rfl⟩:∃ d,c=d+1:=⟨c - 1,by omega⟩
 rfl
theorem SpI.stay {m1:Ja1}{prs:Nat->PR}{mid:Nat->V}{l:List Nat}{c:Nat}{x:CV}{k y:Int}{M:Ja1}(h:SpI m1 (Jn0 prs mid l) ⟨c,x,k,y,M⟩)(h8:c<8)(e:Jn0 prs mid l c=Jn0 prs mid l (c - 1))(v1 e1:Nat)(A:List Nat)(v2 e2:Nat)(B:List Nat):SpI m1 (Jn0 prs mid l) ⟨c+1,x,k,y,M++[⟨.grow,3,v1,e1,iC A⟩,⟨.grow,3,v2,e2,iC B⟩]⟩ where
 c1:=by show 1<=c+1;omega
 c8:=by show c+1<=8;omega
 hM:=by obtain ⟨L0,h0⟩:=h.hM;dsimp only at h0;exact ⟨L0++_,by show M++_=_;rw [h0,List.append_assoc]⟩
 wf:=MWf.app (h.wf.grow (by simp)) (Ja0 (Jf4 _ _) (Ja0 (Jf4 _ _) Jb1))
 hb:=by
  show BstAt (M++_) (Jn0 prs mid l (c+1 - 1)) x k y
  rw [Nat.add_sub_cancel,e];exact h.hb.app _
theorem SpI.best {m1:Ja1}{prs:Nat->PR}{mid:Nat->V}{l:List Nat}{c:Nat}{x:CV}{k y:Int}{M:Ja1}(h:SpI m1 (Jn0 prs mid l) ⟨c,x,k,y,M⟩)(h8:c<8)(hn:l.length<=128)(h0:0<(Jd6 mid l c).length)
  (e:Jn0 prs mid l c=some (Jd6 mid l c++Jc8 mid l c,(Jd6 mid l c).length,Jm4 prs (Jd6 mid l c)+Jm4 prs (Jc8 mid l c))) (vb ez v2 e2:Nat) (B:List Nat):SpI m1 (Jn0 prs mid l) ⟨c+1,.sl M.length vb 0 ((Jd6 mid l c).length+(Jc8 mid l c).length),((Jd6 mid l c).length:Int),Jm4 prs (Jd6 mid l c)+Jm4 prs (Jc8 mid l c),M++[⟨.grow,3,vb,ez,iC (Jd6 mid l c)++iC (Jc8 mid l c)⟩,⟨.grow,3,v2,e2,iC B⟩]⟩ where
 c1:=by show 1<=c+1;omega
 c8:=by show c+1<=8;omega
 hM:=by obtain ⟨L0,h0⟩:=h.hM;dsimp only at h0;exact ⟨L0++_,by show M++_=_;rw [h0,List.append_assoc]⟩
 wf:=MWf.app (h.wf.grow (by simp)) (Ja0 (by show (iC _++iC _).all _=true;rw [Ko7];exact Jf4 _ _) (Ja0 (Jf4 _ _) Jb1))
 hb:=by
  show BstAt _ (Jn0 prs mid l (c+1 - 1)) _ _ _
  rw [Nat.add_sub_cancel,e]
  have hp:(Jd6 mid l c++Jc8 mid l c).Perm l:=List.filter_append_perm _ _
  have hq:=hp.length_eq
  refine ⟨by rw [List.length_append];omega,by omega,rfl,rfl,M.length,vb,.grow,ez,by rw [List.length_append],?_⟩
  rw [Jj9,Ko7];rfl
theorem Jp1 {L:Nat}{m:Ja1}{r:Nat}{b:Blk}(h:MWf L m)(hb:b.cells.all (CV.below L)=true)(hk:b.kind.below L=true):MWf L (m.set r b):=fun c hc=>by
 rcases List.mem_or_eq_of_mem_set hc with h1|h1
 ·exact h c h1
 rw [h1];exact Kk3 hk hb
theorem Kh2 {o:List Nat}{a b:Nat}(h1:a<b)(h2:b<=o.length):Js4 o a b (Ji2 o a b)=o:=by
 unfold Js4 Ji2
 rw [show o.drop b=(o.drop a).drop (b - a) by rw [List.drop_drop];congr 1;omega,List.take_append_drop,List.take_append_drop]
theorem set_self {m:Ja1}{r:Nat}{b:Blk}(h:m[r]?=some b):m.set r b=m:=by
 apply List.ext_getElem?
 intro i
 by_cases e:r=i
 ·subst e;rw [List.getElem?_set_self (Ja8 h),h]
 rw [List.getElem?_set_ne e]
theorem Qs4 {o l:List Nat}{a b:Nat}(h1:a<b)(h2:b<=o.length)(hl:l.length=b - a):setL (iC o) a (iC l)=iC (Js4 o a b l):=by
 have e0:o=o.take a++(Ji2 o a b++o.drop b):=(Kh2 h1 h2).symm
 have e:iC o=iC (o.take a)++(iC (Ji2 o a b)++iC (o.drop b)):=by rw [Ko7,Ko7,<-e0]
 have h:=Qs6 (iC l) (iC (Ji2 o a b)) (iC (o.drop b)) (by rw [Jf5,Jf5,Jd9 h2,hl]) (iC (o.take a))
 rw [Jf5,List.length_take,Nat.min_eq_left (by omega)] at h
 rw [e,h,Ko7,Ko7];rfl
theorem Vd8 (w:Nat)(c0 c1:CV)(pb pv N mb mv:Nat)(prs:Nat->PR)(mid:Nat->V)(r v a b ez:Nat)(o l:List Nat)(m:Ja1)(hM:MkAt m w c0 c1 pb pv N mb mv prs mid)(hb:m[r]?=some ⟨.grow,3,v,ez,iC o⟩)(hab:a<b)(hbo:b<=o.length)(ho:∀ x,x<o.length->o.getD x 0<N)(hol:o.length<=128)(hl:Ji2 o a b=l)(hwd:¬Jo1 mid l (Jf8 (Jo1 mid l))<=0):Ctr Tryz.prog 228 [.one (.ptr w 0 0),.one (.sl r v a l.length)] m (.one (.int .i64 (((Ji7 prs mid l).2:Nat):Int))) (m.set r ⟨.grow,3,v,ez,iC (Js4 o a b (Ji7 prs mid l).1)⟩):=by
 refine Ctr.en Tryz.func228 [.tmp 4] 131 fun hwf Q hQ=>?_
 have hw:=hM.hw
 obtain ⟨kmi,emi,hmi⟩:=hM.hm
 have hN:=hM.n
 have hI:IdsAt m r v a l N:=by rw [<-hl];exact Kp7 ⟨_,_,hb⟩ (by omega) hbo ho hol
 have hn:=hI.n
 have h0:0<l.length:=by rw [<-hl,Jd9 hbo];omega
 have hcs:∀ i,i<l.length->(iC o)[a+i]?=some (.int .i64 ((l.getD i 0:Nat):Int)):=fun i hi=>by
   have e:=Jd9 (a:=a) hbo
   rw [hl] at e
   rw [Ko6 (by omega),<-hl,Js9 (by omega)]
 have hcl:a+l.length<=(iC o).length:=by rw [Jf5,<-hl,Jd9 hbo];omega
 have lw:=Ja8 hw
 have lm:=Ja8 hmi
 have lb:=Ja8 hb
 have ml:(Jb0 N (vF mid)).length=N*3:=Ja5 (w:=3) (F:=vF mid) (fun _=>rfl) _
 have pl:(Jb0 l.length (vF fun j=>mid (l.getD j 0))).length=l.length*3:=Ja5 (w:=3) (F:=vF fun j=>mid (l.getD j 0)) (fun _=>rfl) _
 have ga0:List.take 3 (Jb0 l.length (vF fun j=>mid (l.getD j 0)))=[.int .i64 (mid (l.getD 0 0) 0),.int .i64 (mid (l.getD 0 0) 1),.int .i64 (mid (l.getD 0 0) 2)]:=Jb5 (w:=3) (F:=vF fun j=>mid (l.getD j 0)) (fun _=>rfl) h0
 have n1:(1:Int)<=(l.length:Int):=by omega
 have n2:(0:Int)<(l.length:Int):=by omega
 have n4:(l.length:Int)<=(l.length:Int):=Int.le_refl _
 have n5:3<=l.length*3:=by omega
 have hd2:(l.length:Int).tdiv 2=((l.length / 2:Nat):Int):=by rw [Int.tdiv_eq_ediv_of_nonneg (by omega)];omega
 have hw2:IntKind.i64.wrap ((l.length / 2:Nat):Int)=((l.length / 2:Nat):Int):=wi (by omega)
 have hw3:IntKind.i64.wrap ((l.length:Int) / 2)=((l.length / 2:Nat):Int):=by rw [show (l.length:Int) / 2=((l.length / 2:Nat):Int) by omega];exact hw2
 have hlt0:∀ k,¬m.length+k<m.length:=fun k=>by omega
 refine AW.sr 2 fun K J0=>?_
 have U1:=ca4 hw (Ja3 hw) hmi (ca4 (Ja3 hmi) hb (Ja3 hb) (ca4 ml pl ga0 (ca4 n1 n2 n4 (ca2 n5 hwd))))
 simp only [push_cast,simprocAttr,bxC,c3C,U1]
 apply J0
 refine AW.q fun K J0=>?_
 refine AW.sr 1 fun K J1=>?_
 simp only [push_cast,simprocAttr,bxC,c3C,U1]
 refine AW.w 2 Tru Tru ?_
 refine AW.nilTm 59 3 5 rfl ?_
 try simp only [push_cast,simprocAttr,bxC,c3C,U1]
 refine AW.loopK [0,1,22,23] (fun i=>i<=l.length) (fun i=>[(5,.one (.sl m.length i 0 i)),(24,.one (.int .i64 (i:Int)))]) (fun i=>[(m.length,⟨.grow,59,i,3,Jb0 i (vF fun j=>mid (l.getD j 0))⟩)]) (fun i=>l.length - i) 0 (by omega) ?_ ?_ fun i hi2=>?_
 · first|rfl|(simp only [KS,simprocAttr,Jb0,Int.natCast_zero]<;>repeat' (first|rfl|apply And.intro))
 · (simp only [Ja4,push_cast,simprocAttr,Jb0])<;>rfl
 try simp only [Jb3,Ja4,push_cast,simprocAttr,bxC,c3C,U1]
 refine AW.sr 1 fun K J1=>?_
 simp only [push_cast,simprocAttr,bxC,c3C,U1]
 refine AW.w 2 Tru Tru fun K J1=>?_
 refine AW.cond rfl (fun h25=>?_) (fun h25=>?_)
 ·have hlt:i<l.length:=by have:=of_decide_eq_true h25;omega
  have c1:(0:Int)<=(i:Int):=by omega
  have c2:(i:Int)<(l.length:Int):=by omega
  have hcx:=hcs i hlt
  have x1:l.getD i 0<N:=hI.lt _ hlt
  obtain ⟨x9,hx9⟩:∃ x,x=l.getD i 0:=⟨_,rfl⟩
  rw [<-hx9] at hcx x1
  have x2:(0:Int)<=(x9:Int):=by omega
  have x3:(x9:Int)<(N:Int):=by omega
  have x4:x9*3+3<=N*3:=by omega
  have gax:=Jb5 (w:=3) (F:=vF mid) (fun _=>rfl) x1
  have gxx:=Qq6 mid x9
  have c3:a+i+1<=(iC o).length:=by omega
  have c1:(0:Int)<=(i:Int):=by omega
  have c2:(i:Int)<(l.length:Int):=by omega
  have q1:i<=140737488355327:=by omega
  have q2:(i+1)*24<=140737488355328:=by omega
  have gli:(Jb0 i (vF fun j=>mid (l.getD j 0))).length=i*3:=Ja5 (w:=3) (F:=vF fun j=>mid (l.getD j 0)) (fun _=>rfl) i
  have hap:Jb0 i (vF fun j=>mid (l.getD j 0))++[.int .i64 (mid x9 0),.int .i64 (mid x9 1),.int .i64 (mid x9 2)]=Jb0 (i+1) (vF fun j=>mid (l.getD j 0)):=by rw [hx9];rfl
  refine AW.w 4 Tru Tru fun K J1=>?_
  refine AW.sr 1 fun K J2=>?_
  have U2:=ca4 U1 hcx x2 (ca4 x3 x4 gax (ca4 gxx c1 c2 (ca4 c3 q1 q2 (ca2 gli hlt))))
  simp only [push_cast,simprocAttr,bxC,c3C,U2]
  apply J2
  refine AW.rg ?_
  simp only [push_cast,simprocAttr,bxC,c3C,U2]
  refine AW.w 1 Tru Tru ?_
  refine AW.rg ?_
  simp only [push_cast,simprocAttr,bxC,c3C,U2]
  apply Jo5
  have hwi:IntKind.i64.wrap ((i:Int)+1)=(i:Int)+1:=wi (by omega)
  refine ⟨i+1,by omega,by omega,?_⟩
  try simp only [Jb3,Ja4,push_cast,simprocAttr,bxC,c3C,U2,hwi,hap]
  exact Weak.to (extra:=_) (by simp only [KS,simprocAttr,hwi,hap]) (by first|rfl|(simp only [List.append_assoc,List.cons_append,List.nil_append];rfl)) (by first|rfl|(simp [AV.below,CV.below];done)|(simp [AV.below,CV.below];omega)) (by exact MWf.app (hwf.grow (by simp)) (Ja0 (Jb4 _ (fun _=>rfl) _) Jb1))
 have hin:i=l.length:=by have:=of_decide_eq_false h25;omega
 rw [hin]
 refine AW.w 2 Tru Tru ?_
 refine AW.q fun K J0=>?_
 refine AW.draw [.val,.val,.rd 0,.val,.val,.ext,.fl,.wr] fol (by decide) (by kernel_rfl) ?_
 simp only [push_cast,simprocAttr,bxC,c3C,U1]
 refine DCall.z (Xh6 mid l m.length l.length _ h0 hn ⟨.grow,3,by rw [Jj9];rfl⟩) ?_
 simp only [push_cast,simprocAttr,bxC,c3C,U1]
 apply J0
 refine AW.sr 2 fun K J0=>?_
 simp only [push_cast,simprocAttr,bxC,c3C,U1]
 refine CThen.by (Qs1 mid l _) ?_
 simp only [push_cast,simprocAttr,bxC,c3C,U1]
 refine CThen.by (Qb7 (Jo1 mid l) _) ?_
 simp only [push_cast,simprocAttr,bxC,c3C,U1]
 apply J0
 refine AW.q fun K J0=>?_
 refine AW.draw [.val,.rd 0,.val,.ext,.rd 0,.val,.ext,.val,.val] fol (by decide) (by kernel_rfl) ?_
 simp only [push_cast,simprocAttr,bxC,c3C,U1]
 refine DCall.z (Qq4 (Jz1 mid l) (Jf8 (Jo1 mid l)) (Js7 _) _) ?_
 simp only [push_cast,simprocAttr,bxC,c3C,U1]
 refine DCall.z (Qq4 (Jo1 mid l) (Jf8 (Jo1 mid l)) (Js7 _) _) ?_
 simp only [push_cast,simprocAttr,bxC,c3C,U1]
 apply J0
 refine AW.q fun K J0=>?_
 refine AW.sr 1 fun K J1=>?_
 simp only [push_cast,simprocAttr,bxC,c3C,U1]
 refine AW.w 4 Tru Tru ?_
 refine AW.anyMemG (fun m1=>(∃ L,m1=m++L)/\MWf m1.length m1) ⟨⟨_,rfl⟩,MWf.app (hwf.grow (by simp)) (Ja0 (Jb4 _ (fun _=>rfl) _) (Ja0 rfl (Ja0 rfl Jb1)))⟩ fun m1 hm1=>?_
 refine AW.sr 2 fun K J0=>?_
 simp only [push_cast,simprocAttr,bxC,c3C,U1]
 apply J0
 refine AW.q fun K J0=>?_
 refine AW.sr 1 fun K J1=>?_
 simp only [push_cast,simprocAttr,bxC,c3C,U1]
 refine AW.w 2 Tru Tru ?_
 refine AW.loopX [0,1,10,11,12] (fun (q:SpQ)=>SpI m1 (Jn0 prs mid l) q) (fun (q:SpQ)=>[(13,.one q.x),(14,.one (.int .i64 q.k)),(15,.one (.int .i64 q.y)),(16,.one (.int .i64 (q.c:Int)))]) (fun (q:SpQ)=>q.M) (fun (q:SpQ)=>8 - q.c) ⟨1,.nils,0,0,m1⟩ ⟨Nat.le_refl _,(by show 1<=8;omega),⟨[],(List.append_nil _).symm⟩,hm1.2,⟨rfl,rfl,rfl⟩⟩ ?_ ?_ (fun q hq=>by obtain ⟨L,h⟩:=hq.hM;rw [h];simp) fun q hi9=>?_
 · first|rfl|(simp only [KS,simprocAttr,Int.natCast_zero]<;>repeat' (first|rfl|apply And.intro))
 · rfl
 obtain ⟨c,x,k,y,M⟩:=q
 have hSI:=hi9
 obtain ⟨cb1,cb8,hM9,hwf9,hb9⟩:=hi9
 dsimp only at cb1 cb8 hM9 hwf9 hb9 ⊢
 have hxb:=hb9.bel
 have hxb2:=hxb
 simp [CV.below] at hxb2
 have hMX:∃ L,M=m++L:=by obtain ⟨L,h⟩:=hM9;obtain ⟨⟨L0,h0⟩,_⟩:=hm1;exact ⟨L0++L,by rw [h,h0,List.append_assoc]⟩
 have hMM:MkAt M w c0 c1 pb pv N mb mv prs mid:=by obtain ⟨L,h⟩:=hMX;rw [h];exact hM.app L
 have hIM:IdsAt M r v a l N:=by obtain ⟨L,h⟩:=hMX;rw [h];exact hI.app L
 have hbM:M[r]?=some ⟨.grow,3,v,ez,iC o⟩:=by obtain ⟨L,h⟩:=hMX;rw [h];exact Ja3 hb L
 have hwM:=hMM.hw
 obtain ⟨kmM,emM,hmM⟩:=hMM.hm
 have lwM:=Ja8 hwM
 have lmM:=Ja8 hmM
 have lbM:=Ja8 hbM
 have hltM:∀ k,¬M.length+k<M.length:=fun k=>by omega
 try simp only [Jb3,Ja4,push_cast,simprocAttr,bxC,c3C,U1,hwM,Ja3 hwM,hmM,Ja3 hmM,hbM,Ja3 hbM]
 refine AW.q fun K J1=>?_
 refine AW.sr 1 fun K J2=>?_
 have U3:=ca4 U1 hwM (Ja3 hwM) (ca4 hmM (Ja3 hmM) hbM (Ja3 hbM))
 simp only [push_cast,simprocAttr,bxC,c3C,U3]
 apply J2
 refine AW.cond rfl (fun h62=>?_) (fun h62=>?_)
 ·have h8:c<8:=by have:=of_decide_eq_true h62;omega
  have hmu:8 - (c+1)<8 - c:=by omega
  have hw9:IntKind.i64.wrap ((c:Int)+1)=(c:Int)+1:=wi (by omega)
  have hcu:=Va1 prs mid l cb1
  refine AW.w 4 Tru Tru fun K J1=>?_
  refine AW.sr 1 fun K J2=>?_
  simp only [push_cast,simprocAttr,bxC,c3C,U3]
  apply J2
  refine AW.q fun K J2=>?_
  refine AW.sr 1 fun K J3=>?_
  simp only [push_cast,simprocAttr,bxC,c3C,U3]
  refine AW.w 2 Tru Tru ?_
  refine AW.nilTm 3 1 17 rfl ?_
  try simp only [push_cast,simprocAttr,bxC,c3C,U3]
  refine AW.nilTm 3 1 18 rfl ?_
  try simp only [push_cast,simprocAttr,bxC,c3C,U3]
  refine AW.loopK [0,1,10,11,12,13,14,15,16,65,66] (fun i=>i<=l.length) (fun i=>[(17,.one (.sl M.length (lfN mid l c i).length 0 (lfN mid l c i).length)),(18,.one (.sl (M.length+1) (rgN mid l c i).length 0 (rgN mid l c i).length)),(67,.one (.int .i64 (i:Int)))]) (fun i=>[(M.length,⟨.grow,3,(lfN mid l c i).length,1,iC (lfN mid l c i)⟩),(M.length+1,⟨.grow,3,(rgN mid l c i).length,1,iC (rgN mid l c i)⟩)]) (fun i=>l.length - i) 0 (by omega) ?_ ?_ fun i hi13=>?_
  · first|rfl|(simp only [KS,simprocAttr,lfN,rgN,List.take_zero,List.filter_nil,iC,List.map_nil,List.length_nil,Int.natCast_zero]<;>repeat' (first|rfl|apply And.intro))
  · (simp only [Ja4,push_cast,simprocAttr,lfN,rgN,List.take_zero,List.filter_nil,iC,List.map_nil,List.length_nil])<;>rfl
  try simp only [Jb3,Ja4,push_cast,simprocAttr,bxC,c3C,U3]
  refine AW.sr 1 fun K J3=>?_
  simp only [push_cast,simprocAttr,bxC,c3C,U3]
  refine AW.w 2 Tru Tru fun K J3=>?_
  refine AW.cond rfl (fun h68=>?_) (fun h68=>?_)
  ·have hlt:i<l.length:=by have:=of_decide_eq_true h68;omega
   have c1:(0:Int)<=(i:Int):=by omega
   have c2:(i:Int)<(l.length:Int):=by omega
   have hcx:=hcs i hlt
   have x1:l.getD i 0<N:=hI.lt _ hlt
   obtain ⟨x9,hx9⟩:∃ x,x=l.getD i 0:=⟨_,rfl⟩
   rw [<-hx9] at hcx x1
   have x2:(0:Int)<=(x9:Int):=by omega
   have x3:(x9:Int)<(N:Int):=by omega
   have x4:x9*3+3<=N*3:=by omega
   have gax:=Jb5 (w:=3) (F:=vF mid) (fun _=>rfl) x1
   have gxx:=Qq6 mid x9
   have c3:a+i+1<=(iC o).length:=by omega
   have z1:(0:Int)<=(i:Int):=by omega
   have z2:(i:Int)<(l.length:Int):=by omega
   refine AW.w 4 Tru Tru fun K J3=>?_
   refine AW.sr 2 fun K J4=>?_
   have U4:=ca4 U3 hcx x2 (ca4 x3 x4 gax (ca4 gxx z1 z2 (ca2 c3 hlt)))
   simp only [push_cast,simprocAttr,bxC,c3C,U4]
   refine CThen.by (Qq4 (mid x9) (Jf8 (Jo1 mid l)) (Js7 _) _) ?_
   simp only [push_cast,simprocAttr,bxC,c3C,U4]
   refine CThen.by (Xe6 (mid x9 (Jf8 (Jo1 mid l))) (Jz1 mid l (Jf8 (Jo1 mid l))) (Jo1 mid l (Jf8 (Jo1 mid l))) _) ?_
   simp only [push_cast,simprocAttr,bxC,c3C,U4]
   apply J4
   refine AW.cond rfl (fun h84=>?_) (fun h84=>?_)
   ·have hg:Kw4 mid l c (l.getD i 0)=true:=by rw [<-hx9];exact h84
    obtain ⟨hl1,hl2⟩:=lf_t hlt hg
    rw [<-hx9] at hl1
    have hq1:(lfN mid l c i).length<=140737488355327:=by have:=Vh7 mid l c i;omega
    have hq2:((lfN mid l c i).length+1)*8<=140737488355328:=by have:=Vh7 mid l c i;omega
    have hgl:(iC (lfN mid l c i)).length=(lfN mid l c i).length:=Jf5 _
    have hap1:=Jt5 (lfN mid l c i) x9
    refine AW.rg ?_
    simp only [push_cast,simprocAttr,bxC,c3C,U4,hq1,hq2,hgl]
    refine AW.w 1 Tru Tru ?_
    refine AW.rg ?_
    simp only [push_cast,simprocAttr,bxC,c3C,U4,hq1,hq2,hgl]
    apply Jo5
    have hwi:IntKind.i64.wrap ((i:Int)+1)=(i:Int)+1:=wi (by omega)
    refine ⟨i+1,by omega,by omega,?_⟩
    try simp only [Jb3,Ja4,push_cast,simprocAttr,bxC,c3C,U4,hq1,hq2,hgl,hwi,hl1,hl2,hap1,List.length_append]
    exact Weak.to (extra:=_) (by simp only [KS,simprocAttr,hwi,hl1,hl2,hap1,List.length_append]) (by first|rfl|(simp only [List.append_assoc,List.cons_append,List.nil_append];rfl)) (by first|rfl|(simp [AV.below,CV.below,hxb2];done)|(simp [AV.below,CV.below,hxb2];omega)) (by exact MWf.app (hwf9.grow (by simp)) (Ja0 (Jf4 _ _) (Ja0 (Jf4 _ _) Jb1)))
   have hg:Kw4 mid l c (l.getD i 0)=false:=by rw [<-hx9];exact h84
   obtain ⟨hl1,hl2⟩:=lf_f hlt hg
   rw [<-hx9] at hl2
   have hq1:(rgN mid l c i).length<=140737488355327:=by have:=Vh7 mid l c i;omega
   have hq2:((rgN mid l c i).length+1)*8<=140737488355328:=by have:=Vh7 mid l c i;omega
   have hgl:(iC (rgN mid l c i)).length=(rgN mid l c i).length:=Jf5 _
   have hap1:=Jt5 (rgN mid l c i) x9
   refine AW.rg ?_
   simp only [push_cast,simprocAttr,bxC,c3C,U4,hq1,hq2,hgl]
   refine AW.w 1 Tru Tru ?_
   refine AW.rg ?_
   simp only [push_cast,simprocAttr,bxC,c3C,U4,hq1,hq2,hgl]
   apply Jo5
   have hwi:IntKind.i64.wrap ((i:Int)+1)=(i:Int)+1:=wi (by omega)
   refine ⟨i+1,by omega,by omega,?_⟩
   try simp only [Jb3,Ja4,push_cast,simprocAttr,bxC,c3C,U4,hq1,hq2,hgl,hwi,hl1,hl2,hap1,List.length_append]
   exact Weak.to (extra:=_) (by simp only [KS,simprocAttr,hwi,hl1,hl2,hap1,List.length_append]) (by first|rfl|(simp only [List.append_assoc,List.cons_append,List.nil_append];rfl)) (by first|rfl|(simp [AV.below,CV.below,hxb2];done)|(simp [AV.below,CV.below,hxb2];omega)) (by exact MWf.app (hwf9.grow (by simp)) (Ja0 (Jf4 _ _) (Ja0 (Jf4 _ _) Jb1)))
  have hin:i=l.length:=by have:=of_decide_eq_false h68;omega
  rw [hin,(Vq2 mid l c).1,(Vq2 mid l c).2]
  refine AW.w 3 Tru Tru fun K J2=>?_
  refine AW.q fun K J3=>?_
  have hk26:(Jd6 mid l c=[]/\((Jd6 mid l c).length:Int)=0)\/(Jd6 mid l c≠[]/\0<(Jd6 mid l c).length/\Jc8 mid l c=[])\/(Jd6 mid l c≠[]/\Jc8 mid l c≠[]/\0<(Jd6 mid l c).length/\0<(Jc8 mid l c).length):=by
    by_cases g1:Jd6 mid l c=[]
    · exact .inl ⟨g1,by rw [g1];rfl⟩
    by_cases g2:Jc8 mid l c=[]
    · exact .inr (.inl ⟨g1,List.length_pos_iff.2 g1,g2⟩)
    exact .inr (.inr ⟨g1,g2,List.length_pos_iff.2 g1,List.length_pos_iff.2 g2⟩)
  rcases hk26 with ⟨g1,g2⟩|⟨g1,g2,g3⟩|⟨g1,g2,g3,g4⟩
  ·have hst:Jn0 prs mid l c=Jn0 prs mid l (c - 1):=by rw [hcu];unfold Vm5;rw [if_pos (.inl g1)]
   have hNx:=hSI.stay h8 hst
   have e1:(((Jd6 mid l c).length:Int) ==0)=true:=by rw [g2];rfl
   refine AW.rg ?_
   simp only [push_cast,simprocAttr,bxC,c3C,U3,e1]
   refine AW.w 4 Tru Tru ?_
   refine AW.rg ?_
   simp only [push_cast,simprocAttr,bxC,c3C,U3,e1]
   apply Jo5
   try simp only [Jb3,Ja4,push_cast,simprocAttr,bxC,c3C,U3,e1]
   first|exact ⟨_,hNx _ _ _ _ _ _,hmu,Weak.same (by simp only [KS,simprocAttr,hw9,Int.natCast_add,Int.cast_ofNat_Int,Int.natCast_one]) (by first|rfl|(simp only [List.append_assoc,List.cons_append,List.nil_append];rfl))⟩|exact ⟨_,hNx ((Jd6 mid l c).length+1) 1 _ _ _,hmu,Weak.same (by simp only [KS,simprocAttr,hw9,Int.natCast_add,Int.cast_ofNat_Int,Int.natCast_one]) (by first|rfl|(simp only [List.append_assoc,List.cons_append,List.nil_append];rfl))⟩
  ·have hst:Jn0 prs mid l c=Jn0 prs mid l (c - 1):=by rw [hcu];unfold Vm5;rw [if_pos (.inr g3)]
   have hNx:=hSI.stay h8 hst
   have e1:(((Jd6 mid l c).length:Int) ==0)=false:=by simp;omega
   have e2:(((Jc8 mid l c).length:Int) ==0)=true:=by rw [g3];rfl
   refine AW.rg ?_
   simp only [push_cast,simprocAttr,bxC,c3C,U3,e1,e2]
   refine AW.w 4 Tru Tru ?_
   refine AW.rg ?_
   simp only [push_cast,simprocAttr,bxC,c3C,U3,e1,e2]
   apply Jo5
   try simp only [Jb3,Ja4,push_cast,simprocAttr,bxC,c3C,U3,e1,e2]
   first|exact ⟨_,hNx _ _ _ _ _ _,hmu,Weak.same (by simp only [KS,simprocAttr,hw9,Int.natCast_add,Int.cast_ofNat_Int,Int.natCast_one]) (by first|rfl|(simp only [List.append_assoc,List.cons_append,List.nil_append];rfl))⟩|exact ⟨_,hNx ((Jd6 mid l c).length+1) 1 _ _ _,hmu,Weak.same (by simp only [KS,simprocAttr,hw9,Int.natCast_add,Int.cast_ofNat_Int,Int.natCast_one]) (by first|rfl|(simp only [List.append_assoc,List.cons_append,List.nil_append];rfl))⟩
  have e1:(((Jd6 mid l c).length:Int) ==0)=false:=by simp;omega
  have e2:(((Jc8 mid l c).length:Int) ==0)=false:=by simp;omega
  have hle1:(Jd6 mid l c).length<=l.length:=List.length_filter_le _ _
  have hle2:(Jc8 mid l c).length<=l.length:=List.length_filter_le _ _
  have hlf1:∀ i,i<(Jd6 mid l c).length->(Jd6 mid l c).getD i 0<N:=Kw0 hI.lt
  have hlf2:∀ i,i<(Jc8 mid l c).length->(Jc8 mid l c).getD i 0<N:=Kw0 hI.lt
  have hs1:=Qc4 (Jn4 (Jb7 prs (Jd6 mid l c)))
  have hs2:=Qc4 (Jn4 (Jb7 prs (Jc8 mid l c)))
  have hcb:∀ t:List Nat,t.length<=128->-274877906944<=Jm4 prs t/\Jm4 prs t<=274877906944:=fun t ht=>by
    have hs:=Qc4 (Jn4 (Jb7 prs t))
    have q1:=Int.mul_le_mul_of_nonneg_left hs.1 (show 0<=(t.length:Int) by omega)
    have q2:=Int.mul_le_mul_of_nonneg_left hs.2 (show 0<=(t.length:Int) by omega)
    unfold Jm4;omega
  have hb1:=hcb (Jd6 mid l c) (by omega)
  have hb2:=hcb (Jc8 mid l c) (by omega)
  have hwc:IntKind.i64.wrap (Jm4 prs (Jd6 mid l c)+Jm4 prs (Jc8 mid l c))=Jm4 prs (Jd6 mid l c)+Jm4 prs (Jc8 mid l c):=wi (by omega)
  refine AW.rg ?_
  simp only [push_cast,simprocAttr,bxC,c3C,U3,e1,e2,hwc]
  refine AW.w 4 Tru Tru ?_
  refine AW.sr 1 fun K J2=>?_
  simp only [push_cast,simprocAttr,bxC,c3C,U3,e1,e2,hwc]
  refine CThen.by (Qr4 w c0 c1 pb pv N mb mv prs mid M.length _ 0 (Jd6 mid l c) _ (hMM.app _) (Qg1 ⟨.grow,1,by rw [Jj9];rfl⟩ hlf1 (by omega)) g3) ?_
  simp only [push_cast,simprocAttr,bxC,c3C,U3,e1,e2,hwc]
  refine CThen.by (Qr4 w c0 c1 pb pv N mb mv prs mid (M.length+1) _ 0 (Jc8 mid l c) _ (hMM.app _) (Qg1 ⟨.grow,1,by rw [Jf1];rfl⟩ hlf2 (by omega)) g4) ?_
  simp only [push_cast,simprocAttr,bxC,c3C,U3,e1,e2,hwc]
  apply J2
  refine AW.q fun K J2=>?_
  rcases Kx5 hb9 (Jm4 prs (Jd6 mid l c)+Jm4 prs (Jc8 mid l c)) with ⟨hs0,rfl,rfl,rfl⟩|⟨bb,bn,bc,rb,vb,kk,eb,hs0,rfl,hp0,hp1,rfl,rfl,hlk,hlt9⟩|⟨bb,bn,bc,rb,vb,kk,eb,hs0,rfl,hp0,hp1,rfl,rfl,hlk,hlt9⟩
  ·have hst:Jn0 prs mid l c=some (Jd6 mid l c++Jc8 mid l c,(Jd6 mid l c).length,Jm4 prs (Jd6 mid l c)+Jm4 prs (Jc8 mid l c)):=by rw [hcu];unfold Vm5;rw [if_neg (fun h=>h.elim g1 g2),hs0]
   have hNx:=hSI.best h8 hn g3 hst
   have hgl1:(iC (Jd6 mid l c)).length=(Jd6 mid l c).length:=Jf5 _
   have hgl2:(iC (Jc8 mid l c)).length=(Jc8 mid l c).length:=Jf5 _
   have hq1:(Jd6 mid l c).length+(Jc8 mid l c).length<=140737488355327:=by omega
   have hq2:((Jd6 mid l c).length+(Jc8 mid l c).length)*8<=140737488355328:=by omega
   have hq3:(Jd6 mid l c).length+(Jc8 mid l c).length<=140737488355328:=by omega
   have hvR:(iC (Jc8 mid l c)).all CV.isVal=true:=Qf3 _
   have htk:List.take (Jc8 mid l c).length (iC (Jc8 mid l c))=iC (Jc8 mid l c):=List.take_of_length_le (by rw [Jf5];omega)
   refine AW.rg ?_
   have U5:=ca4 U3 e1 e2 (ca4 hwc hgl1 hgl2 (ca4 hq1 hq2 hq3 (ca2 hvR htk)))
   simp only [push_cast,simprocAttr,bxC,c3C,U5]
   refine AW.w 2 Tru Tru ?_
   refine AW.rg ?_
   simp only [push_cast,simprocAttr,bxC,c3C,U5]
   refine AW.w 1 Tru Tru ?_
   refine AW.rg ?_
   simp only [push_cast,simprocAttr,bxC,c3C,U5]
   apply Jo5
   try simp only [Jb3,Ja4,push_cast,simprocAttr,bxC,c3C,U5]
   first|exact ⟨_,hNx _ _ _ _ _ _,hmu,Weak.same (by simp only [KS,simprocAttr,hw9,Int.natCast_add,Int.cast_ofNat_Int,Int.natCast_one]) (by first|rfl|(simp only [List.append_assoc,List.cons_append,List.nil_append];rfl))⟩|exact ⟨_,hNx ((Jd6 mid l c).length+1) 1 _ _ _,hmu,Weak.same (by simp only [KS,simprocAttr,hw9,Int.natCast_add,Int.cast_ofNat_Int,Int.natCast_one]) (by first|rfl|(simp only [List.append_assoc,List.cons_append,List.nil_append];rfl))⟩
  ·have hst:Jn0 prs mid l c=some (Jd6 mid l c++Jc8 mid l c,(Jd6 mid l c).length,Jm4 prs (Jd6 mid l c)+Jm4 prs (Jc8 mid l c)):=by rw [hcu];unfold Vm5;rw [if_neg (fun h=>h.elim g1 g2),hs0];exact if_pos hlt9
   have hNx:=hSI.best h8 hn g3 hst
   have hgl1:(iC (Jd6 mid l c)).length=(Jd6 mid l c).length:=Jf5 _
   have hgl2:(iC (Jc8 mid l c)).length=(Jc8 mid l c).length:=Jf5 _
   have hq1:(Jd6 mid l c).length+(Jc8 mid l c).length<=140737488355327:=by omega
   have hq2:((Jd6 mid l c).length+(Jc8 mid l c).length)*8<=140737488355328:=by omega
   have hq3:(Jd6 mid l c).length+(Jc8 mid l c).length<=140737488355328:=by omega
   have hvR:(iC (Jc8 mid l c)).all CV.isVal=true:=Qf3 _
   have htk:List.take (Jc8 mid l c).length (iC (Jc8 mid l c))=iC (Jc8 mid l c):=List.take_of_length_le (by rw [Jf5];omega)
   refine AW.rg ?_
   have U6:=ca4 U3 e1 e2 (ca4 hwc hgl1 hgl2 (ca4 hq1 hq2 hq3 (ca4 hvR htk hp0 hlt9)))
   simp only [push_cast,simprocAttr,bxC,c3C,U6]
   refine AW.w 2 Tru Tru ?_
   refine AW.rg ?_
   simp only [push_cast,simprocAttr,bxC,c3C,U6]
   refine AW.w 1 Tru Tru ?_
   refine AW.rg ?_
   simp only [push_cast,simprocAttr,bxC,c3C,U6]
   apply Jo5
   try simp only [Jb3,Ja4,push_cast,simprocAttr,bxC,c3C,U6]
   first|exact ⟨_,hNx _ _ _ _ _ _,hmu,Weak.same (by simp only [KS,simprocAttr,hw9,Int.natCast_add,Int.cast_ofNat_Int,Int.natCast_one]) (by first|rfl|(simp only [List.append_assoc,List.cons_append,List.nil_append];rfl))⟩|exact ⟨_,hNx ((Jd6 mid l c).length+1) 1 _ _ _,hmu,Weak.same (by simp only [KS,simprocAttr,hw9,Int.natCast_add,Int.cast_ofNat_Int,Int.natCast_one]) (by first|rfl|(simp only [List.append_assoc,List.cons_append,List.nil_append];rfl))⟩
  have hst:Jn0 prs mid l c=Jn0 prs mid l (c - 1):=by rw [hcu];unfold Vm5;rw [if_neg (fun h=>h.elim g1 g2),hs0];exact if_neg hlt9
  have hNx:=hSI.stay h8 hst
  refine AW.rg ?_
  have U7:=ca4 U3 e1 e2 (ca3 hwc hp0 hlt9)
  simp only [push_cast,simprocAttr,bxC,c3C,U7]
  refine AW.w 4 Tru Tru ?_
  refine AW.rg ?_
  simp only [push_cast,simprocAttr,bxC,c3C,U7]
  apply Jo5
  try simp only [Jb3,Ja4,push_cast,simprocAttr,bxC,c3C,U7]
  first|exact ⟨_,hNx _ _ _ _ _ _,hmu,Weak.same (by simp only [KS,simprocAttr,hw9,Int.natCast_add,Int.cast_ofNat_Int,Int.natCast_one]) (by first|rfl|(simp only [List.append_assoc,List.cons_append,List.nil_append];rfl))⟩|exact ⟨_,hNx ((Jd6 mid l c).length+1) 1 _ _ _,hmu,Weak.same (by simp only [KS,simprocAttr,hw9,Int.natCast_add,Int.cast_ofNat_Int,Int.natCast_one]) (by first|rfl|(simp only [List.append_assoc,List.cons_append,List.nil_append];rfl))⟩
 obtain rfl:c=8:=by have:=of_decide_eq_false h62;omega
 refine AW.w 3 Tru Tru fun K J0=>?_
 refine AW.q fun K J1=>?_
 rcases Kx5 hb9 0 with ⟨hs0,rfl,rfl,rfl⟩|⟨bb,bn,bc,rb,vb,kk,eb,hs0,rfl,hp0,hp1,rfl,rfl,hlk,hlt9⟩|⟨bb,bn,bc,rb,vb,kk,eb,hs0,rfl,hp0,hp1,rfl,rfl,hlk,hlt9⟩
 all_goals (try dsimp only [Nat.add_one_sub_one] at hs0)
 ·have hsp:Ji7 prs mid l=(l,l.length / 2):=by unfold Ji7;rw [if_neg (show ¬Qi5 mid l<=0 from hwd),hs0]
  have hput:m.set r ⟨.grow,3,v,ez,iC (Js4 o a b l)⟩=m:=by
    rw [show Js4 o a b l=o from by rw [<-hl];exact Kh2 hab hbo]
    exact set_self hb
  rw [hsp,hput] at hQ
  obtain ⟨L9,hL9⟩:=hMX
  subst hL9
  refine AW.rg ?_
  simp only [push_cast,simprocAttr,bxC,c3C,U3,hd2,hw2,hw3]
  refine AW.w 2 Tru Tru ?_
  refine AW.sr 1 fun K J1=>?_
  simp only [push_cast,simprocAttr,bxC,c3C,U3,hd2,hw2,hw3]
  refine AW.w 2 Tru Tru ?_
  refine hQ _ _ _ ?_
  first|refine RetP.drop0 (by first|exact Or.inr rfl|exact Or.inl rfl) ?_ ?_ hwf|refine RetP.drop (by first|exact Or.inr rfl|exact Or.inl rfl) ?_ ?_ hwf|refine RetP.dropM (by simp) (by first|exact Or.inr rfl|exact Or.inl rfl) ?_ ?_ (Jp1 hwf (Jf4 _ _) rfl)
  · (simp only [Jd3,Ja9,Jb6,AV.tv,push_cast,simprocAttr])<;>rfl
  rfl
 ·have hsp:Ji7 prs mid l=(bb,bn):=by unfold Ji7;rw [if_neg (show ¬Qi5 mid l<=0 from hwd),hs0]
  rw [hsp] at hQ
  have hok:=Ke6 (prs:=prs) (mid:=mid) (l:=l) 7
  rw [hs0] at hok
  have hbl:bb.length=l.length:=hok.1.length_eq
  have hmin:min bb.length l.length=l.length:=by omega
  have hcp:setL (iC o) a (iC bb)=iC (Js4 o a b bb):=Qs4 hab hbo (by rw [hbl,<-hl,Jd9 hbo])
  have hbv:=Qf3 bb
  have hbg:(iC bb).length=l.length:=by rw [Jf5,hbl]
  have hbt:List.take l.length (iC bb)=iC bb:=List.take_of_length_le (by omega)
  obtain ⟨L9,hL9⟩:=hMX
  have hset9:∀ B,M.set r B=m.set r B++L9:=fun B=>by rw [hL9];exact List.set_append_left _ _ (by omega)
  refine AW.rg ?_
  have U8:=ca4 U3 hp0 hlk (ca4 hbl hmin hcp (ca4 hbv hbg hbt (ca3 h0 hcl hset9)))
  simp only [push_cast,simprocAttr,bxC,c3C,Nat.min_self,U8]
  refine AW.w 4 Tru Tru ?_
  refine AW.sr 2 fun K J0=>?_
  simp only [push_cast,simprocAttr,bxC,c3C,Nat.min_self,U8]
  refine AW.w 2 Tru Tru ?_
  refine hQ _ _ _ ?_
  first|refine RetP.drop0 (by first|exact Or.inr rfl|exact Or.inl rfl) ?_ ?_ hwf|refine RetP.drop (by first|exact Or.inr rfl|exact Or.inl rfl) ?_ ?_ hwf|refine RetP.dropM (by simp) (by first|exact Or.inr rfl|exact Or.inl rfl) ?_ ?_ (Jp1 hwf (Jf4 _ _) rfl)
  · (simp only [Jd3,Ja9,Jb6,AV.tv,push_cast,simprocAttr])<;>rfl
  rfl
 have hsp:Ji7 prs mid l=(bb,bn):=by unfold Ji7;rw [if_neg (show ¬Qi5 mid l<=0 from hwd),hs0]
 rw [hsp] at hQ
 have hok:=Ke6 (prs:=prs) (mid:=mid) (l:=l) 7
 rw [hs0] at hok
 have hbl:bb.length=l.length:=hok.1.length_eq
 have hmin:min bb.length l.length=l.length:=by omega
 have hcp:setL (iC o) a (iC bb)=iC (Js4 o a b bb):=Qs4 hab hbo (by rw [hbl,<-hl,Jd9 hbo])
 have hbv:=Qf3 bb
 have hbg:(iC bb).length=l.length:=by rw [Jf5,hbl]
 have hbt:List.take l.length (iC bb)=iC bb:=List.take_of_length_le (by omega)
 obtain ⟨L9,hL9⟩:=hMX
 have hset9:∀ B,M.set r B=m.set r B++L9:=fun B=>by rw [hL9];exact List.set_append_left _ _ (by omega)
 refine AW.rg ?_
 have U9:=ca4 U3 hp0 hlk (ca4 hbl hmin hcp (ca4 hbv hbg hbt (ca3 h0 hcl hset9)))
 simp only [push_cast,simprocAttr,bxC,c3C,Nat.min_self,U9]
 refine AW.w 4 Tru Tru ?_
 refine AW.sr 2 fun K J0=>?_
 simp only [push_cast,simprocAttr,bxC,c3C,Nat.min_self,U9]
 refine AW.w 2 Tru Tru ?_
 refine hQ _ _ _ ?_
 first|refine RetP.drop0 (by first|exact Or.inr rfl|exact Or.inl rfl) ?_ ?_ hwf|refine RetP.drop (by first|exact Or.inr rfl|exact Or.inl rfl) ?_ ?_ hwf|refine RetP.dropM (by simp) (by first|exact Or.inr rfl|exact Or.inl rfl) ?_ ?_ (Jp1 hwf (Jf4 _ _) rfl)
 · (simp only [Jd3,Ja9,Jb6,AV.tv,push_cast,simprocAttr])<;>rfl
 rfl
theorem Vt7 (w:Nat)(c0 c1:CV)(pb pv N mb mv:Nat)(prs:Nat->PR)(mid:Nat->V)(r v a b ez:Nat)(o l:List Nat)(m:Ja1)(hM:MkAt m w c0 c1 pb pv N mb mv prs mid)(hb:m[r]?=some ⟨.grow,3,v,ez,iC o⟩)(hab:a<b)(hbo:b<=o.length)(ho:∀ x,x<o.length->o.getD x 0<N)(hol:o.length<=128)(hl:Ji2 o a b=l):Ctr Tryz.prog 228 [.one (.ptr w 0 0),.one (.sl r v a l.length)] m (.one (.int .i64 (((Ji7 prs mid l).2:Nat):Int))) (m.set r ⟨.grow,3,v,ez,iC (Js4 o a b (Ji7 prs mid l).1)⟩):=by
 by_cases hwd:Jo1 mid l (Jf8 (Jo1 mid l))<=0
 ·have hsp:Ji7 prs mid l=(l,l.length / 2):=by unfold Ji7;exact if_pos (show Qi5 mid l<=0 from hwd)
  have hput:m.set r ⟨.grow,3,v,ez,iC (Js4 o a b l)⟩=m:=by
   rw [show Js4 o a b l=o from by rw [<-hl];exact Kh2 hab hbo]
   exact set_self hb
  rw [hsp,hput]
  exact Vd9 w c0 c1 pb pv N mb mv prs mid r v a b ez o l m hM hb hab hbo ho hol hl hwd
 exact Vd8 w c0 c1 pb pv N mb mv prs mid r v a b ez o l m hM hb hab hbo ho hol hl hwd
def ndC (d:ND):List CV:=prC d.p++[.int .i64 d.left,.int .i64 d.right,.int .i64 d.first,.int .i64 d.count]
def nd0:ND:=⟨⟨⟨fun _=>0,fun _=>0⟩,⟨fun _=>0,fun _=>0⟩⟩,0,0,0,0⟩
def ndL (l:List ND):List CV:=Jb0 l.length fun i=>ndC (l.getD i nd0)
theorem Kh7 (l:List ND):(ndL l).length=l.length*16:=Ja5 (w:=16) (fun _=>rfl) _
theorem catC_congr {F G:Nat->List CV}:∀ {n:Nat},(∀ i,i<n->F i=G i)->Jb0 n F=Jb0 n G
 | 0,_=>rfl
 | n+1,h=>by show Jb0 n F++F n=Jb0 n G++G n;rw [catC_congr fun i hi=>h i (by omega),h n (by omega)]
theorem Vg3 (l:List ND)(d:ND):ndL l++ndC d=ndL (l++[d]):=by
 unfold ndL
 rw [List.length_append,List.length_singleton]
 show _=Jb0 l.length _++ndC ((l++[d]).getD l.length nd0)
 have e:(l++[d]).getD l.length nd0=d:=by rw [List.getD_eq_getElem?_getD,List.getElem?_append_right (Nat.le_refl _),Nat.sub_self];rfl
 rw [e]
 congr 1
 exact catC_congr fun i hi=>by rw [List.getD_eq_getElem?_getD,List.getD_eq_getElem?_getD,List.getElem?_append_left hi]
theorem catC_set {F G:Nat->List CV}{w:Nat}(hF:∀ i,(F i).length=w){i k:Nat}{x:CV}(hk:k<w)(hG:G i=(F i).set k x):∀ {n:Nat},(∀ j,j≠i->G j=F j)->i<n->(Jb0 n F).set (i*w+k) x=Jb0 n G
 | 0,_,h=>by omega
 | n+1,hj,h=>by
  have hl:=Ja5 (w:=w) (F:=F) hF n
  show (Jb0 n F++F n).set _ x=Jb0 n G++G n
  by_cases e:i=n
  ·subst e
   rw [List.set_append_right _ _ (by omega),hl,Nat.add_sub_cancel_left,hG]
   congr 1
   exact catC_congr fun j q=>(hj j (by omega)).symm
  have hle:(i+1)*w<=n*w:=Nat.mul_le_mul_right w (by omega)
  rw [Nat.add_mul,Nat.one_mul] at hle
  rw [List.set_append_left _ _ (by omega),catC_set hF hk hG hj (by omega),hj n (by omega)]
theorem Qw5 {l:List ND}{i k:Nat}{d d':ND}{x:CV}(hi:l[i]?=some d)(hk:k<16)(hd:ndC d'=(ndC d).set k x):(ndL l).set (i*16+k) x=ndL (l.set i d'):=by
 have hlt:=(List.getElem?_eq_some_iff.1 hi).1
 unfold ndL
 rw [List.length_set]
 refine catC_set (w:=16) (fun _=>rfl) hk ?_ ?_ hlt
 ·rw [List.getD_eq_getElem?_getD,List.getD_eq_getElem?_getD,List.getElem?_set_self hlt,hi];exact hd
 intro j hj
 rw [List.getD_eq_getElem?_getD,List.getD_eq_getElem?_getD,List.getElem?_set_ne (by omega)]
structure TB where
 (w nb r pb pv N mb mv v ez:Nat)
def TB.wC (T:TB)(st:List Nat × List ND):List CV:=[.sl T.nb st.2.length 0 st.2.length,.sl T.r T.v 0 st.1.length,.sl T.pb T.pv 0 T.N,.sl T.mb T.mv 0 T.N]
def tM (m:Ja1)(T:TB)(st:List Nat × List ND):Ja1:=((m.set T.w ⟨.fix,314,0,0,T.wC st⟩).set T.nb ⟨.grow,255,st.2.length,16,ndL st.2⟩).set T.r ⟨.grow,3,T.v,T.ez,iC st.1⟩
structure TmP (T:TB)(prs:Nat->PR)(mid:Nat->V)(m M:Ja1)(st:List Nat × List ND):Prop where
 len:m.length<=M.length
 old:∀ i,i<m.length->i≠T.w->i≠T.nb->i≠T.r->M[i]?=m[i]?
 hw:M[T.w]?=some ⟨.fix,314,0,0,T.wC st⟩
 hn:M[T.nb]?=some ⟨.grow,255,st.2.length,16,ndL st.2⟩
 hr:M[T.r]?=some ⟨.grow,3,T.v,T.ez,iC st.1⟩
structure TbOk (T:TB)(prs:Nat->PR)(mid:Nat->V)(m:Ja1):Prop where
 lw:T.w<m.length
 ln:T.nb<m.length
 lr:T.r<m.length
 d1:T.w≠T.nb
 d2:T.w≠T.r
 d3:T.nb≠T.r
 d4:T.pb≠T.w/\T.pb≠T.nb/\T.pb≠T.r
 d5:T.mb≠T.w/\T.mb≠T.nb/\T.mb≠T.r
 hp:∃ k ez,m[T.pb]?=some ⟨k,234,T.pv,ez,Jb0 T.N (prF prs)⟩
 hm:∃ k ez,m[T.mb]?=some ⟨k,59,T.mv,ez,Jb0 T.N (vF mid)⟩
 n:T.N<=128
theorem Kn3 (m:Ja1)(T:TB)(st:List Nat × List ND):(tM m T st).length=m.length:=by unfold tM;rw [List.length_set,List.length_set,List.length_set]
theorem TmP.ext {T:TB}{prs:Nat->PR}{mid:Nat->V}{m M:Ja1}{st:List Nat × List ND}(h:TmP T prs mid m M st)(hT:TbOk T prs mid m):∃ L,M=tM m T st++L:=by
 refine ⟨M.drop m.length,List.ext_getElem? fun i=>?_⟩
 by_cases hi:i<m.length
 ·rw [List.getElem?_append_left (by rw [Kn3];exact hi)]
  unfold tM
  by_cases e1:i=T.r
  ·subst e1;rw [h.hr,List.getElem?_set_self (by rw [List.length_set,List.length_set];exact hi)]
  rw [List.getElem?_set_ne (by omega)]
  by_cases e2:i=T.nb
  ·subst e2;rw [h.hn,List.getElem?_set_self (by rw [List.length_set];exact hi)]
  rw [List.getElem?_set_ne (by omega)]
  by_cases e3:i=T.w
  ·subst e3;rw [h.hw,List.getElem?_set_self hi]
  rw [List.getElem?_set_ne (by omega)];exact h.old i hi e3 e2 e1
 rw [List.getElem?_append_right (by rw [Kn3];omega),Kn3,List.getElem?_drop]
 congr 1;omega
theorem TmP.mk' {T:TB}{prs:Nat->PR}{mid:Nat->V}{m M:Ja1}{st:List Nat × List ND}(h:TmP T prs mid m M st)(hT:TbOk T prs mid m):MkAt M T.w (.sl T.nb st.2.length 0 st.2.length) (.sl T.r T.v 0 st.1.length) T.pb T.pv T.N T.mb T.mv prs mid where
 hw:=h.hw
 hp:=by obtain ⟨k,e,q⟩:=hT.hp;exact ⟨k,e,by rw [h.old _ (Ja8 q) hT.d4.1 hT.d4.2.1 hT.d4.2.2];exact q⟩
 hm:=by obtain ⟨k,e,q⟩:=hT.hm;exact ⟨k,e,by rw [h.old _ (Ja8 q) hT.d5.1 hT.d5.2.1 hT.d5.2.2];exact q⟩
 n:=hT.n
theorem TmP.ok {T:TB}{prs:Nat->PR}{mid:Nat->V}{m M:Ja1}{st:List Nat × List ND}(h:TmP T prs mid m M st)(hT:TbOk T prs mid m):TbOk T prs mid M where
 lw:=Nat.lt_of_lt_of_le hT.lw h.len
 ln:=Nat.lt_of_lt_of_le hT.ln h.len
 lr:=Nat.lt_of_lt_of_le hT.lr h.len
 d1:=hT.d1
 d2:=hT.d2
 d3:=hT.d3
 d4:=hT.d4
 d5:=hT.d5
 hp:=(h.mk' hT).hp
 hm:=(h.mk' hT).hm
 n:=hT.n
theorem TmP.app {T:TB}{prs:Nat->PR}{mid:Nat->V}{m M:Ja1}{st:List Nat × List ND}(h:TmP T prs mid m M st)(hT:TbOk T prs mid m)(L:Ja1):TmP T prs mid m (M++L) st where
 len:=by rw [List.length_append];have:=h.len;omega
 old:=fun i hi h1 h2 h3=>by rw [List.getElem?_append_left (Nat.lt_of_lt_of_le hi h.len)];exact h.old i hi h1 h2 h3
 hw:=Ja3 h.hw L
 hn:=Ja3 h.hn L
 hr:=Ja3 h.hr L
theorem TmP.put {T:TB}{prs:Nat->PR}{mid:Nat->V}{m M:Ja1}{st:List Nat × List ND}(h:TmP T prs mid m M st)(hT:TbOk T prs mid m)(st':List Nat × List ND):TmP T prs mid m (tM M T st') st' where
 len:=by rw [Kn3];exact h.len
 old:=fun i hi h1 h2 h3=>by
  unfold tM
  rw [List.getElem?_set_ne (by omega),List.getElem?_set_ne (by omega),List.getElem?_set_ne (by omega)]
  exact h.old i hi h1 h2 h3
 hw:=by
  have:=(h.ok hT).lw
  unfold tM
  rw [List.getElem?_set_ne (fun e=>hT.d2 e.symm),List.getElem?_set_ne (fun e=>hT.d1 e.symm),List.getElem?_set_self this]
 hn:=by
  have:=(h.ok hT).ln
  unfold tM
  rw [List.getElem?_set_ne (fun e=>hT.d3 e.symm),List.getElem?_set_self (by rw [List.length_set];exact this)]
 hr:=by
  have:=(h.ok hT).lr
  unfold tM
  rw [List.getElem?_set_self (by rw [List.length_set,List.length_set];exact this)]
theorem Jq6 {prs:Nat->PR}{mid:Nat->V}:∀ (f a b:Nat) (st:List Nat × List ND),b - a<=f->a<b->b<=st.1.length->(Jp5 prs mid f a b st).2.length+1<=st.2.length+2*(b - a)
 | 0,a,b,st,hf,hab,_=>by omega
 | f+1,a,b,(o,nds),hf,hab,hb=>by
  have hb':b<=o.length:=hb
  unfold Jp5
  by_cases h4:b - a<=4
  ·rw [if_pos h4];show (nds++[_]).length+1<=nds.length+2*(b - a);rw [List.length_append,List.length_singleton];omega
  rw [if_neg h4]
  have hsl:=Jd9 (a:=a) hb'
  obtain ⟨hperm,hm0,hm1⟩:=Kp8 (prs:=prs) (mid:=mid) (l:=Ji2 o a b) (by omega)
  obtain ⟨sp,hsp⟩:∃ sp,sp=Ji7 prs mid (Ji2 o a b):=⟨_,rfl⟩
  rw [<-hsp] at hperm hm0 hm1 ⊢
  rw [hsl] at hm1
  have hl1:sp.1.length=b - a:=by rw [hperm.length_eq,hsl]
  have ol1:(Js4 o a b sp.1).length=o.length:=Jy6 (by omega) hb' hl1
  obtain ⟨s0,hs0⟩:∃ s0,s0=(Js4 o a b sp.1,nds++[(⟨Jb7 prs (Ji2 o a b),-1,-1,0,0⟩:ND)]):=⟨_,rfl⟩
  have e1:s0.1.length=o.length:=by rw [hs0];exact ol1
  have e2:s0.2.length=nds.length+1:=by rw [hs0];simp
  dsimp only
  rw [<-hs0]
  have k1:=Jw7 (prs:=prs) (mid:=mid) f a (a+sp.2) s0 (by omega) (by omega) (by omega)
  have c1:=Jq6 (prs:=prs) (mid:=mid) f a (a+sp.2) s0 (by omega) (by omega) (by omega)
  have c2:=Jq6 (prs:=prs) (mid:=mid) f (a+sp.2) b (Jp5 prs mid f a (a+sp.2) s0) (by omega) (by omega) (by rw [k1.len];omega)
  rw [List.length_set]
  omega
theorem Qs8 {o o':List Nat}{a b N:Nat}(h:Vr8 o o' a b)(hl:o'.length=o.length)(hb:b<=o.length)(ho:∀ x,x<o.length->o.getD x 0<N):∀ x,x<o'.length->o'.getD x 0<N:=fun x hx=>by
 by_cases q:x<a\/b<=x
 ·rw [List.getD_eq_getElem?_getD,h.2 x q,<-List.getD_eq_getElem?_getD];exact ho x (by omega)
 have h1:=Jx9 (o:=o') (a:=a) (b:=b) (x:=x) (by omega) (by omega)
 have h2:o'.getD x 0 ∈ Ji2 o a b:=h.1.mem_iff.2 (List.mem_of_getElem? (by rw [h1,List.getD_eq_getElem?_getD,List.getElem?_eq_getElem hx];rfl))
 obtain ⟨k,hk,e⟩:=List.getElem_of_mem h2
 have h3:=Js9 (o:=o) (a:=a) (b:=b) (i:=k) (by rw [Jd9 hb] at hk;omega)
 rw [List.getD_eq_getElem?_getD,List.getElem?_eq_getElem hk] at h3
 have h3:(Ji2 o a b)[k]=o.getD (a+k) 0:=h3
 rw [<-e,h3]
 exact ho _ (by rw [Jd9 hb] at hk;omega)
theorem Xh1 {o l:List Nat}{a b N:Nat}(hab:a<b)(hb:b<=o.length)(hp:l.Perm (Ji2 o a b))(ho:∀ x,x<o.length->o.getD x 0<N):∀ x,x<(Js4 o a b l).length->(Js4 o a b l).getD x 0<N:=by
 have hl:l.length=b - a:=by rw [hp.length_eq,Jd9 hb]
 refine Qs8 (a:=a) (b:=b) ⟨?_,fun x hx=>Qd9 hb (by omega) hl hx⟩ (Jy6 (by omega) hb hl) hb ho
 have e:Ji2 (Js4 o a b l) a b=l:=by
  refine List.ext_getElem? fun i=>?_
  have ol:=Jy6 (o:=o) (a:=a) (b:=b) (by omega) hb hl
  by_cases hi:i<b - a
  ·have:=Jx9 (o:=Js4 o a b l) (a:=a) (b:=b) (x:=a+i) (by omega) (by omega)
   rw [show a+i - a=i by omega] at this
   rw [this,Qv0 hb (by omega) hl (by omega) (by omega),show a+i - a=i by omega]
  rw [List.getElem?_eq_none (by rw [Jd9 (by omega)];omega),List.getElem?_eq_none (by omega)]
 rw [e];exact hp.symm
theorem TmP.snoc {T:TB}{prs:Nat->PR}{mid:Nat->V}{m:Ja1}{o:List Nat}{nds:List ND}(hP:TmP T prs mid m m (o,nds))(hT:TbOk T prs mid m)(d:ND)(X:Ja1):TmP T prs mid m ((m.set T.nb ⟨.grow,255,nds.length+1,16,ndL nds++ndC d⟩).set T.w ⟨.fix,314,0,0,[.sl T.nb (nds.length+1) 0 (nds.length+1),.sl T.r T.v 0 o.length,.sl T.pb T.pv 0 T.N,.sl T.mb T.mv 0 T.N]⟩++X) (o,nds++[d]):=by
 have hl:(nds++[d]).length=nds.length+1:=by simp
 refine TmP.app ⟨by simp,fun i hi h1 h2 h3=>?_,?_,?_,?_⟩ hT X
 ·rw [List.getElem?_set_ne (by omega),List.getElem?_set_ne (by omega)]
 ·rw [List.getElem?_set_self (by rw [List.length_set];exact hT.lw)]
  show some _=some (Blk.mk _ _ _ _ [.sl T.nb (nds++[d]).length 0 (nds++[d]).length,_,_,_])
  rw [hl]
 ·rw [List.getElem?_set_ne hT.d1,List.getElem?_set_self hT.ln]
  show some _=some (Blk.mk _ _ (nds++[d]).length _ (ndL (nds++[d])))
  rw [hl,Vg3]
 rw [List.getElem?_set_ne hT.d2,List.getElem?_set_ne hT.d3];exact hP.hr
theorem TmP.two {T:TB}{prs:Nat->PR}{mid:Nat->V}{m M:Ja1}{o:List Nat}{ns:List ND}(hM:TmP T prs mid m M (o,ns))(hT:TbOk T prs mid m){i k1 k2 n:Nat}{d d1 d2:ND}{x1 x2:CV}(hn:ns.length=n)(hi:ns[i]?=some d)(hk1:k1<16)(hk2:k2<16)(h1:ndC d1=(ndC d).set k1 x1)(h2:ndC d2=(ndC d1).set k2 x2) :
  TmP T prs mid m ((M.set T.nb ⟨.grow,255,n,16,(ndL ns).set (i*16+k1) x1⟩).set T.nb ⟨.grow,255,n,16,((ndL ns).set (i*16+k1) x1).set (i*16+k2) x2⟩) (o,ns.set i d2):=by
 have hlt:=(List.getElem?_eq_some_iff.1 hi).1
 have e1:=Qw5 hi hk1 h1
 have e2:=Qw5 (l:=ns.set i d1) (List.getElem?_set_self hlt) hk2 h2
 rw [List.set_set] at e2
 rw [e1,e2,List.set_set]
 subst hn
 have hl:(ns.set i d2).length=ns.length:=List.length_set
 refine ⟨by rw [List.length_set];exact hM.len,fun j hj g1 g2 g3=>?_,?_,?_,?_⟩
 ·rw [List.getElem?_set_ne (by omega)];exact hM.old j hj g1 g2 g3
 ·rw [List.getElem?_set_ne (fun e=>hT.d1 e.symm),hM.hw]
  show some _=some (Blk.mk _ _ _ _ [.sl T.nb (ns.set i d2).length 0 (ns.set i d2).length,_,_,_])
  rw [hl];rfl
 ·rw [List.getElem?_set_self (hM.ok hT).ln]
  show some _=some (Blk.mk _ _ (ns.set i d2).length _ _)
  rw [hl]
 rw [List.getElem?_set_ne hT.d3];exact hM.hr
theorem Xe7 {m:Ja1}{T:TB}{prs:Nat->PR}{mid:Nat->V}(hT:TbOk T prs mid m)(h:MWf m.length m)(st:List Nat × List ND):MWf m.length (tM m T st):=by
 obtain ⟨_,_,q1⟩:=hT.hp
 obtain ⟨_,_,q2⟩:=hT.hm
 have l1:=Ja8 q1
 have l2:=Ja8 q2
 have l3:=hT.ln
 have l4:=hT.lr
 refine Jp1 (Jp1 (Jp1 h ?_ rfl) (Jb4 _ (fun _=>rfl) _) rfl) (Jf4 _ _) rfl
 simp [TB.wC,CV.below];omega
theorem Ve1 {l:List ND}{d d':ND}:(l++[d]).set l.length d'=l++[d']:=by
 rw [List.set_append_right _ _ (Nat.le_refl _),Nat.sub_self];rfl
theorem Vx1 (T:TB)(prs:Nat->PR)(mid:Nat->V)(a b:Nat)(o:List Nat)(nds:List ND)(m:Ja1)(hT:TbOk T prs mid m)(hP:TmP T prs mid m m (o,nds))(hab:a<b)(hbo:b<=o.length)(ho:∀ x,x<o.length->o.getD x 0<T.N)(hol:o.length<=128)(hnd:nds.length<=1000)(h4:b - a<=4):Ctr Tryz.prog 184 [.one (.ptr T.w 0 0),.one (.int .i64 ((a:Int))),.one (.int .i64 ((b:Int)))] m (.one (.int .i64 (nds.length:Int))) (tM m T (o,nds++[⟨Jb7 prs (Ji2 o a b),-1,-1,(a:Int),((b - a:Nat):Int)⟩])):=by
 refine Ctr.en Tryz.func184 [.tmp 6] 96 fun hwf Q hQ=>?_
 obtain ⟨l,hl⟩:∃ l,l=Ji2 o a b:=⟨_,rfl⟩
 have hll:b - a=l.length:=by rw [hl,Jd9 hbo]
 have hw:m[T.w]?=some ⟨.fix,314,0,0,[.sl T.nb nds.length 0 nds.length,.sl T.r T.v 0 o.length,.sl T.pb T.pv 0 T.N,.sl T.mb T.mv 0 T.N]⟩:=hP.hw
 have hn:m[T.nb]?=some ⟨.grow,255,nds.length,16,ndL nds⟩:=hP.hn
 have hr:m[T.r]?=some ⟨.grow,3,T.v,T.ez,iC o⟩:=hP.hr
 have lw:=hT.lw
 have ln:=hT.ln
 have lr:=hT.lr
 have d1:=hT.d1
 have d2:=hT.d2
 have d3:=hT.d3
 have d1s:=d1.symm
 have d2s:=d2.symm
 have d3s:=d3.symm
 have hI:IdsAt m T.r T.v a l T.N:=by rw [hl];exact Kp7 ⟨_,_,hr⟩ (by omega) hbo ho hol
 have hMk:=hP.mk' hT
 dsimp only at hMk
 have h0:0<l.length:=by omega
 have ol:(iC o).length=o.length:=Jf5 _
 have nl:(ndL nds).length=nds.length*16:=Kh7 _
 have n1:(0:Int)<=(a:Int):=by omega
 have n2:(a:Int)<=(b:Int):=by omega
 have n3:(b:Int)<=(o.length:Int):=by omega
 have q1:nds.length<=140737488355327:=by omega
 have q2:(nds.length+1)*128<=140737488355328:=by omega
 have hs1:∀ B (X:Ja1),(m++X).set T.nb B=m.set T.nb B++X:=fun B X=>List.set_append_left _ _ ln
 have hs2:∀ B (X:Ja1),(m++X).set T.w B=m.set T.w B++X:=fun B X=>List.set_append_left _ _ lw
 have hkw:∀ B (X:Ja1),(m.set T.nb B++X)[T.w]?=some ⟨.fix,314,0,0,[.sl T.nb nds.length 0 nds.length,.sl T.r T.v 0 o.length,.sl T.pb T.pv 0 T.N,.sl T.mb T.mv 0 T.N]⟩:=fun B X=>by rw [List.getElem?_append_left (by rw [List.length_set];exact lw),List.getElem?_set_ne d1s];exact hw
 have hs3:∀ B C (X:Ja1),(m.set T.nb B++X).set T.w C=(m.set T.nb B).set T.w C++X:=fun B C X=>List.set_append_left _ _ (by rw [List.length_set];exact lw)
 have hlt0:∀ k,¬m.length+k<m.length:=fun k=>by omega
 rw [<-hl,hll] at hQ
 have h4i:(l.length:Int)<=4:=by omega
 have U1:=ca4 hw (Ja3 hw) hn (ca4 (Ja3 hn) hr (Ja3 hr) (ca4 ol nl n1 (ca4 n2 n3 q1 (ca4 q2 hs1 hs2 (ca4 hkw hs3 d1 (ca4 d2 d3 d1s (ca4 d2s d3s hll (ca4 @Kb2 @Je9 @Ja6 h4i))))))))
 refine AW.wd [[.val,.val,.val,.val,.val,.rd 0,.val,.val,.ext,.val,.ext,.wr,.val,.val,.val,.wr]] 4 U1 (Kg1 T.w (.sl T.nb nds.length 0 nds.length) (.sl T.r T.v 0 o.length) T.pb T.pv T.N T.mb T.mv prs mid T.r T.v a l _ hMk hI h0) ?_
 refine AW.q fun K J0=>?_
 refine AW.anyMemG (fun M=>TmP T prs mid m M (o,nds++[(⟨Jb7 prs l,-1,-1,0,0⟩:ND)])) (hP.snoc hT (⟨Jb7 prs l,-1,-1,0,0⟩:ND) _) fun M hM=>?_
 have hwM:M[T.w]?=some ⟨.fix,314,0,0,[.sl T.nb (nds++[(⟨Jb7 prs l,-1,-1,0,0⟩:ND)]).length 0 (nds++[(⟨Jb7 prs l,-1,-1,0,0⟩:ND)]).length,.sl T.r T.v 0 o.length,.sl T.pb T.pv 0 T.N,.sl T.mb T.mv 0 T.N]⟩:=hM.hw
 have hnM:M[T.nb]?=some ⟨.grow,255,(nds++[(⟨Jb7 prs l,-1,-1,0,0⟩:ND)]).length,16,ndL (nds++[(⟨Jb7 prs l,-1,-1,0,0⟩:ND)])⟩:=hM.hn
 have hnl:(nds++[(⟨Jb7 prs l,-1,-1,0,0⟩:ND)]).length=nds.length+1:=by simp
 rw [hnl] at hwM hnM
 have hML:(ndL (nds++[(⟨Jb7 prs l,-1,-1,0,0⟩:ND)])).length=(nds.length+1)*16:=by rw [Kh7,hnl]
 have hMl:=hM.len
 have hkn:∀ B,(M.set T.nb B)[T.nb]?=some B:=fun B=>List.getElem?_set_self (by omega)
 have hkW:∀ B,(M.set T.nb B)[T.w]?=M[T.w]?:=fun B=>List.getElem?_set_ne d1s
 have u1:(0:Int)<=(nds.length:Int):=by omega
 have u2:(nds.length:Int)<(nds.length:Int)+1:=by omega
 have u3:nds.length*16+16<=(nds.length+1)*16:=by omega
 have u4:nds.length<nds.length+1:=by omega
 have u5:nds.length*16+15<=(nds.length+1)*16:=by omega
 refine AW.w 2 U1 Tru ?_
 have U2:=ca4 U1 hwM hnM (ca4 hML hkn hkW (ca4 u1 u2 u3 (ca2 u4 u5)))
 refine AW.d [.val,.val,.val,.val,.rd 0,.val,.val,.val,.val,.val,.rd 0,.val,.val,.val,.val,.val,.val,.wr,.val,.val,.wr] fol U2 Tru ?_
 refine AW.anyMemG (fun M=>∃ L,M=tM m T (o,nds++[(⟨Jb7 prs l,-1,-1,(a:Int),(l.length:Int)⟩:ND)])++L) ?_ fun M hM=>?_
 · have:=(hM.two hT (i:=nds.length) (k1:=14) (k2:=15) (x1:=.int .i64 (a:Int)) (x2:=.int .i64 (l.length:Int)) (d:=(⟨Jb7 prs l,-1,-1,0,0⟩:ND)) (d1:=⟨Jb7 prs l,-1,-1,(a:Int),0⟩) (d2:=(⟨Jb7 prs l,-1,-1,(a:Int),(l.length:Int)⟩:ND)) hnl (by rw [List.getElem?_append_right (Nat.le_refl _),Nat.sub_self];rfl) (by decide) (by decide) rfl rfl).ext hT
   rw [Ve1] at this
   exact this
 obtain ⟨L9,rfl⟩:=hM
 refine AW.w 2 U2 Tru ?_
 refine hQ _ _ _ ?_
 refine RetP.dropM (Kn3 _ _ _) (by first|exact Or.inr rfl|exact Or.inl rfl) ?_ ?_ (Xe7 hT hwf _)
 · (simp only [Jd3,Ja9,Jb6,AV.tv,push_cast,simprocAttr])<;>rfl
 rfl
theorem TmP.order {T:TB}{prs:Nat->PR}{mid:Nat->V}{m M:Ja1}{o o':List Nat}{ns:List ND}(h:TmP T prs mid m M (o,ns))(hT:TbOk T prs mid m)(ho:o'.length=o.length):TmP T prs mid m (M.set T.r ⟨.grow,3,T.v,T.ez,iC o'⟩) (o',ns) where
 len:=by rw [List.length_set];exact h.len
 old:=fun i hi h1 h2 h3=>by rw [List.getElem?_set_ne (by omega)];exact h.old i hi h1 h2 h3
 hw:=by
  rw [List.getElem?_set_ne (fun e=>hT.d2 e.symm),h.hw]
  show some (Blk.mk _ _ _ _ [_,.sl T.r T.v 0 o.length,_,_])=some (Blk.mk _ _ _ _ [_,.sl T.r T.v 0 o'.length,_,_])
  rw [ho]
 hn:=by rw [List.getElem?_set_ne (fun e=>hT.d3 e.symm)];exact h.hn
 hr:=List.getElem?_set_self (h.ok hT).lr
theorem TmP.self {T:TB}{prs:Nat->PR}{mid:Nat->V}{m M:Ja1}{st:List Nat × List ND}(h:TmP T prs mid m M st):TmP T prs mid M M st:=⟨Nat.le_refl _,fun _ _ _ _ _=>rfl,h.hw,h.hn,h.hr⟩
theorem Vx0 (T:TB)(prs:Nat->PR)(mid:Nat->V)(a b:Nat)(o:List Nat)(nds:List ND)(m:Ja1)(hT:TbOk T prs mid m)(hP:TmP T prs mid m m (o,nds))(hab:a<b)(hbo:b<=o.length)(ho:∀ x,x<o.length->o.getD x 0<T.N)(hol:o.length<=128)(f:Nat)(hf:b - a<=f+1)(hnd:nds.length+2*(b - a)<=1000)(h4:¬b - a<=4)(ih:∀ (a b:Nat) (st:List Nat × List ND) (m:Ja1),b - a<=f->a<b->b<=st.1.length->(∀ x,x<st.1.length->st.1.getD x 0<T.N)->st.1.length<=128->st.2.length+2*(b - a)<=1000->TbOk T prs mid m->TmP T prs mid m m st->Ctr Tryz.prog 184 [.one (.ptr T.w 0 0),.one (.int .i64 ((a:Int))),.one (.int .i64 ((b:Int)))] m (.one (.int .i64 (st.2.length:Int))) (tM m T (Jp5 prs mid f a b st))):Ctr Tryz.prog 184 [.one (.ptr T.w 0 0),.one (.int .i64 ((a:Int))),.one (.int .i64 ((b:Int)))] m (.one (.int .i64 (nds.length:Int))) (tM m T (Jp5 prs mid (f+1) a b (o,nds))):=by
 refine Ctr.en Tryz.func184 [.tmp 6] 96 fun hwf Q hQ=>?_
 obtain ⟨l,hl⟩:∃ l,l=Ji2 o a b:=⟨_,rfl⟩
 have hll:b - a=l.length:=by rw [hl,Jd9 hbo]
 have hw:m[T.w]?=some ⟨.fix,314,0,0,[.sl T.nb nds.length 0 nds.length,.sl T.r T.v 0 o.length,.sl T.pb T.pv 0 T.N,.sl T.mb T.mv 0 T.N]⟩:=hP.hw
 have hn:m[T.nb]?=some ⟨.grow,255,nds.length,16,ndL nds⟩:=hP.hn
 have hr:m[T.r]?=some ⟨.grow,3,T.v,T.ez,iC o⟩:=hP.hr
 have lw:=hT.lw
 have ln:=hT.ln
 have lr:=hT.lr
 have d1:=hT.d1
 have d2:=hT.d2
 have d3:=hT.d3
 have d1s:=d1.symm
 have d2s:=d2.symm
 have d3s:=d3.symm
 have hI:IdsAt m T.r T.v a l T.N:=by rw [hl];exact Kp7 ⟨_,_,hr⟩ (by omega) hbo ho hol
 have hMk:=hP.mk' hT
 dsimp only at hMk
 have h0:0<l.length:=by omega
 have ol:(iC o).length=o.length:=Jf5 _
 have nl:(ndL nds).length=nds.length*16:=Kh7 _
 have n1:(0:Int)<=(a:Int):=by omega
 have n2:(a:Int)<=(b:Int):=by omega
 have n3:(b:Int)<=(o.length:Int):=by omega
 have q1:nds.length<=140737488355327:=by omega
 have q2:(nds.length+1)*128<=140737488355328:=by omega
 have hs1:∀ B (X:Ja1),(m++X).set T.nb B=m.set T.nb B++X:=fun B X=>List.set_append_left _ _ ln
 have hs2:∀ B (X:Ja1),(m++X).set T.w B=m.set T.w B++X:=fun B X=>List.set_append_left _ _ lw
 have hkw:∀ B (X:Ja1),(m.set T.nb B++X)[T.w]?=some ⟨.fix,314,0,0,[.sl T.nb nds.length 0 nds.length,.sl T.r T.v 0 o.length,.sl T.pb T.pv 0 T.N,.sl T.mb T.mv 0 T.N]⟩:=fun B X=>by rw [List.getElem?_append_left (by rw [List.length_set];exact lw),List.getElem?_set_ne d1s];exact hw
 have hs3:∀ B C (X:Ja1),(m.set T.nb B++X).set T.w C=(m.set T.nb B).set T.w C++X:=fun B C X=>List.set_append_left _ _ (by rw [List.length_set];exact lw)
 have hlt0:∀ k,¬m.length+k<m.length:=fun k=>by omega
 have h4i:¬(l.length:Int)<=4:=by omega
 obtain ⟨hperm,hm0,hm1⟩:=Kp8 (prs:=prs) (mid:=mid) (l:=l) (by omega)
 obtain ⟨sp,hsp⟩:∃ sp,sp=Ji7 prs mid l:=⟨_,rfl⟩
 rw [<-hsp] at hperm hm0 hm1
 have hlb:sp.1.length=b - a:=by rw [hperm.length_eq];omega
 have ol1:(Js4 o a b sp.1).length=o.length:=Jy6 (by omega) hbo hlb
 have nl1:(nds++[(⟨Jb7 prs l,-1,-1,0,0⟩:ND)]).length=nds.length+1:=by simp
 obtain ⟨mm,hmm⟩:∃ mm,mm=a+sp.2:=⟨_,rfl⟩
 have hw7:IntKind.i64.wrap ((a:Int)+(sp.2:Int))=(mm:Int):=by rw [show (a:Int)+(sp.2:Int)=(mm:Int) by omega];exact wi (by omega)
 have k1:=Jw7 (prs:=prs) (mid:=mid) f a mm (Js4 o a b sp.1,(nds++[(⟨Jb7 prs l,-1,-1,0,0⟩:ND)])) (by omega) (by omega) (by show _<=(Js4 o a b sp.1).length;omega)
 have c1:=Jq6 (prs:=prs) (mid:=mid) f a mm (Js4 o a b sp.1,(nds++[(⟨Jb7 prs l,-1,-1,0,0⟩:ND)])) (by omega) (by omega) (by show _<=(Js4 o a b sp.1).length;omega)
 obtain ⟨s1,hs1e⟩:∃ s1,s1=Jp5 prs mid f a mm (Js4 o a b sp.1,(nds++[(⟨Jb7 prs l,-1,-1,0,0⟩:ND)])):=⟨_,rfl⟩
 rw [<-hs1e] at k1 c1
 have sl1:s1.1.length=o.length:=k1.len.trans ol1
 have q5:(nds++[(⟨Jb7 prs l,-1,-1,0,0⟩:ND)]).length<s1.2.length:=k1.lt
 have c1':s1.2.length+1<=(nds++[(⟨Jb7 prs l,-1,-1,0,0⟩:ND)]).length+2*(mm - a):=c1
 have k2:=Jw7 (prs:=prs) (mid:=mid) f mm b s1 (by omega) (by omega) (by omega)
 have c2:=Jq6 (prs:=prs) (mid:=mid) f mm b s1 (by omega) (by omega) (by omega)
 obtain ⟨s2,hs2e⟩:∃ s2,s2=Jp5 prs mid f mm b s1:=⟨_,rfl⟩
 rw [<-hs2e] at k2 c2
 have q6:=k2.lt
 have ho1:∀ x,x<(Js4 o a b sp.1).length->(Js4 o a b sp.1).getD x 0<T.N:=Xh1 hab hbo (hl ▸ hperm) ho
 have ho2:∀ x,x<s1.1.length->s1.1.getD x 0<T.N:=Qs8 k1.same k1.len (by show _<=(Js4 o a b sp.1).length;omega) ho1
 have hs2d:s2.2[nds.length]?=some (⟨Jb7 prs l,-1,-1,0,0⟩:ND):=by
   have g1:s1.2[nds.length]?=(nds++[(⟨Jb7 prs l,-1,-1,0,0⟩:ND)])[nds.length]?:=k1.pre nds.length (by show nds.length<(nds++[(⟨Jb7 prs l,-1,-1,0,0⟩:ND)]).length;omega)
   rw [k2.pre nds.length (by omega),g1,List.getElem?_append_right (Nat.le_refl _),Nat.sub_self];rfl
 have hfin:Jp5 prs mid (f+1) a b (o,nds)=(s2.1,s2.2.set nds.length (⟨Jb7 prs l,((nds.length+1:Nat):Int),((s1.2.length:Nat):Int),0,0⟩:ND)):=by
   rw [Jp5]
   rw [if_neg h4]
   dsimp only
   rw [<-hl,<-hsp,<-hmm,<-hs1e,<-hs2e]
 rw [hfin] at hQ
 have U1:=ca4 hw (Ja3 hw) hn (ca4 (Ja3 hn) hr (Ja3 hr) (ca4 ol nl n1 (ca4 n2 n3 q1 (ca4 q2 hs1 hs2 (ca4 hkw hs3 d1 (ca4 d2 d3 d1s (ca4 d2s d3s hll (ca4 @Kb2 @Je9 @Ja6 (ca2 h4i hw7)))))))))
 refine AW.wd [[.val,.val,.val,.val,.val,.rd 0,.val,.val,.ext,.val,.ext,.wr,.val,.val,.val,.wr]] 4 U1 (Kg1 T.w (.sl T.nb nds.length 0 nds.length) (.sl T.r T.v 0 o.length) T.pb T.pv T.N T.mb T.mv prs mid T.r T.v a l _ hMk hI h0) ?_
 refine AW.q fun K J0=>?_
 refine AW.anyMemG (fun M=>TmP T prs mid m M (o,(nds++[(⟨Jb7 prs l,-1,-1,0,0⟩:ND)]))) (hP.snoc hT (⟨Jb7 prs l,-1,-1,0,0⟩:ND) _) fun M hM=>?_
 have hMk1:=hM.mk' hT
 have hrM:M[T.r]?=some ⟨.grow,3,T.v,T.ez,iC o⟩:=hM.hr
 refine AW.w 4 U1 Tru ?_
 have q_1:=Vt7 T.w _ _ T.pb T.pv T.N T.mb T.mv prs mid T.r T.v a b T.ez o l M hMk1 hrM hab hbo ho hol hl.symm
 rw [<-hsp] at q_1
 refine AW.c 1 U1 q_1 ?_
 refine AW.anyMemG (fun M1=>TmP T prs mid m M1 (Js4 o a b sp.1,(nds++[(⟨Jb7 prs l,-1,-1,0,0⟩:ND)]))) (hM.order hT ol1) fun M1 hM1=>?_
 refine AW.sr 1 fun K J0=>?_
 simp only [push_cast,simprocAttr,U1]
 refine CThen.by (ih a mm (Js4 o a b sp.1,(nds++[(⟨Jb7 prs l,-1,-1,0,0⟩:ND)])) _ (by omega) (by omega) (by show _<=(Js4 o a b sp.1).length;omega) ho1 (by show (Js4 o a b sp.1).length<=_;omega) (by show (nds++[(⟨Jb7 prs l,-1,-1,0,0⟩:ND)]).length+_<=_;omega) (hM1.ok hT) hM1.self) ?_
 simp only [push_cast,simprocAttr,U1]
 apply J0
 refine AW.anyMemG (fun M2=>TmP T prs mid m M2 s1) (hs1e ▸ hM1.put hT _) fun M2 hM2=>?_
 refine AW.c 1 U1 (ih mm b s1 _ (by omega) (by omega) (by omega) ho2 (by omega) (by omega) (hM2.ok hT) hM2.self) ?_
 refine AW.anyMemG (fun M3=>TmP T prs mid m M3 (s2.1,s2.2)) (hs2e ▸ hM2.put hT _) fun M3 hM3=>?_
 have hwM:M3[T.w]?=some ⟨.fix,314,0,0,[.sl T.nb s2.2.length 0 s2.2.length,.sl T.r T.v 0 s2.1.length,.sl T.pb T.pv 0 T.N,.sl T.mb T.mv 0 T.N]⟩:=hM3.hw
 have hnM:M3[T.nb]?=some ⟨.grow,255,s2.2.length,16,ndL s2.2⟩:=hM3.hn
 have hMl:=hM3.len
 have hML:(ndL s2.2).length=s2.2.length*16:=Kh7 _
 have hkn:∀ B,(M3.set T.nb B)[T.nb]?=some B:=fun B=>List.getElem?_set_self (by omega)
 have hkW:∀ B,(M3.set T.nb B)[T.w]?=M3[T.w]?:=fun B=>List.getElem?_set_ne d1s
 have u1:(0:Int)<=(nds.length:Int):=by omega
 have u2:(nds.length:Int)<(s2.2.length:Int):=by omega
 have u3:nds.length*16+16<=s2.2.length*16:=by omega
 have u4:nds.length<s2.2.length:=by omega
 have u5:nds.length*16+15<=s2.2.length*16:=by omega
 have u6:nds.length*16+14<=s2.2.length*16:=by omega
 have u7:nds.length*16+13<=s2.2.length*16:=by omega
 have U2:=ca4 U1 hwM hnM (ca4 hML hkn hkW (ca4 u1 u2 u3 (ca4 u4 u5 u6 u7)))
 refine AW.d [.val,.val,.val,.val,.rd 0,.val,.val,.val,.val,.val,.rd 0,.val,.val,.val,.val,.val,.wr,.val,.val,.wr] fol U2 Tru ?_
 refine AW.anyMemG (fun M=>∃ L,M=tM m T (s2.1,s2.2.set nds.length (⟨Jb7 prs l,((nds.length+1:Nat):Int),((s1.2.length:Nat):Int),0,0⟩:ND))++L) ?_ fun M hM=>?_
 · exact (hM3.two hT (i:=nds.length) (k1:=12) (k2:=13) (x1:=.int .i64 ((nds.length+1:Nat):Int)) (x2:=.int .i64 ((s1.2.length:Nat):Int)) (d:=(⟨Jb7 prs l,-1,-1,0,0⟩:ND)) (d1:=(⟨Jb7 prs l,((nds.length+1:Nat):Int),-1,0,0⟩:ND)) (d2:=(⟨Jb7 prs l,((nds.length+1:Nat):Int),((s1.2.length:Nat):Int),0,0⟩:ND)) rfl hs2d (by decide) (by decide) rfl rfl).ext hT
 obtain ⟨L9,rfl⟩:=hM
 refine AW.w 2 U2 Tru ?_
 refine hQ _ _ _ ?_
 refine RetP.dropM (Kn3 _ _ _) (by first|exact Or.inr rfl|exact Or.inl rfl) ?_ ?_ (Xe7 hT hwf _)
 · (simp only [Jd3,Ja9,Jb6,AV.tv,push_cast,simprocAttr])<;>rfl
 rfl
theorem Vp6 (T:TB)(prs:Nat->PR)(mid:Nat->V):∀ f,∀ (a b:Nat) (st:List Nat × List ND) (m:Ja1),b - a<=f->a<b->b<=st.1.length->(∀ x,x<st.1.length->st.1.getD x 0<T.N)->st.1.length<=128->st.2.length+2*(b - a)<=1000->TbOk T prs mid m->TmP T prs mid m m st->Ctr Tryz.prog 184 [.one (.ptr T.w 0 0),.one (.int .i64 ((a:Int))),.one (.int .i64 ((b:Int)))] m (.one (.int .i64 (st.2.length:Int))) (tM m T (Jp5 prs mid f a b st))
 | 0,a,b,st,m,hf,hab,_,_,_,_,_,_=>by omega
 | f+1,a,b,(o,nds),m,hf,hab,hbo,ho,hol,hnd,hT,hP=>by
  have hnd':nds.length+2*(b - a)<=1000:=hnd
  by_cases h4:b - a<=4
  ·have e:Jp5 prs mid (f+1) a b (o,nds)=(o,nds++[⟨Jb7 prs (Ji2 o a b),-1,-1,(a:Int),((b - a:Nat):Int)⟩]):=by rw [Jp5];exact if_pos h4
   rw [e]
   exact Vx1 T prs mid a b o nds m hT hP hab hbo ho hol (by omega) h4
  exact Vx0 T prs mid a b o nds m hT hP hab hbo ho hol f hf hnd' h4 (Vp6 T prs mid f)
theorem Vg0 (prs:Nat->PR)(rb rv n:Nat)(m:Ja1)(hb:∃ k ez,m[rb]?=some ⟨k,234,rv,ez,Jb0 n (prF prs)⟩)(h0:0<n)(hn:n<=128):Ctr Tryz.prog 181 [.one (.sl rb rv 0 n)] m (.one (.sl m.length 0 0 n)) (m++[⟨.grow,234,0,12,Jb0 n (prF prs)⟩]):=by
 refine Ctr.en Tryz.func181 [.tmp 2] 8 fun hwf Q hQ=>?_
 obtain ⟨k0,e0,hb⟩:=hb
 have lb:=Ja8 hb
 have bl:(Jb0 n (prF prs)).length=n*12:=Ja5 (w:=12) (F:=prF prs) (fun _=>rfl) _
 have bv:(Jb0 n (prF prs)).all CV.isVal=true:=Jb4 _ (fun _=>rfl) _
 have bt:List.take (n*12) (Jb0 n (prF prs))=Jb0 n (prF prs):=List.take_of_length_le (by omega)
 have q1:n<=140737488355327:=by omega
 have q4:n<=140737488355328:=by omega
 have q2:n*96<=140737488355328:=by omega
 have q3:n*12<=140737488355328:=by omega
 have hlt0:∀ k,¬m.length+k<m.length:=fun k=>by omega
 have U1:=ca4 hb (Ja3 hb) bl (ca4 bv bt q1 (ca4 q2 q3 q4 h0))
 refine AW.w 8 U1 Tru ?_
 refine hQ _ _ _ ?_
 refine RetP.pick [(m.length,1)] (by first|exact Or.inr rfl|exact Or.inl rfl) ?_ ?_ ?_ hwf ?_
 · simp only [Jd3,Ja9,Jb6,AV.tv,push_cast,simprocAttr]
   simp [Km6,Kq7,Kb1,Js3,Jh0,hlt0]
 · (simp only [Jm9,push_cast,simprocAttr])<;>rfl
 · simp [Jc4]
 exact Ja0 (Jb4 _ (fun _=>rfl) _) Jb1
theorem Qk1 (m:Ja1):Ctr Tryz.prog 181 [.one .nils] m (.one .nils) m:=by
 exact Ctr.f Tryz.func181 [.tmp 2] 8 Tru Tru
theorem Qr1 (m:Ja1):Ctr Tryz.prog 102 [.one .nils] m (.agg [.nils,.nils]) m:=by
 exact Ctr.f Tryz.func102 [.cell 2 125] 59 Tru Qk1
def Qp1 (prs:Nat->PR)(i:Nat):V:=Xi2 (Jn4 (prs i))
def Jh1 (prs:Nat->PR)(n:Nat):List Nat × List ND:=Jp5 prs (Qp1 prs) n 0 n (List.range n,[])
theorem Vt1 (prs:Nat->PR)(rb rv n:Nat)(m:Ja1)(hb:∃ k ez,m[rb]?=some ⟨k,234,rv,ez,Jb0 n (prF prs)⟩)(h0:0<n)(hn:n<=128):Ctr Tryz.prog 102 [.one (.sl rb rv 0 n)] m (.agg [.sl m.length 0 0 (Jh1 prs n).2.length,.sl (m.length+1) 0 0 n]) (m++[⟨.grow,255,0,16,ndL (Jh1 prs n).2⟩,⟨.grow,3,0,1,iC (Jh1 prs n).1⟩]):=by
 refine Ctr.en Tryz.func102 [.cell 2 125] 59 fun hwf Q hQ=>?_
 obtain ⟨k0,e0,hb⟩:=hb
 have lb:=Ja8 hb
 have bl:(Jb0 n (prF prs)).length=n*12:=Ja5 (w:=12) (F:=prF prs) (fun _=>rfl) _
 have bv:(Jb0 n (prF prs)).all CV.isVal=true:=Jb4 _ (fun _=>rfl) _
 have bt:List.take (n*12) (Jb0 n (prF prs))=Jb0 n (prF prs):=List.take_of_length_le (by omega)
 have q1:n<=140737488355327:=by omega
 have q4:n<=140737488355328:=by omega
 have q2:n*96<=140737488355328:=by omega
 have q3:n*12<=140737488355328:=by omega
 have hlt0:∀ k,¬m.length+k<m.length:=fun k=>by omega
 have e1:((n:Int) ==0)=false:=by simp;omega
 have e2:¬(128:Int)<(n:Int):=by omega
 have hst:(Jh1 prs n).1.length=n:=(Jw7 (prs:=prs) (mid:=Qp1 prs) n 0 n (List.range n,[]) (by omega) h0 (by simp)).len.trans List.length_range
 refine AW.sr 2 fun K J0=>?_
 have U2:=ca4 hb (Ja3 hb) h0 (ca2 e1 e2)
 simp only [push_cast,simprocAttr,bl,U2]
 refine CThen.by (Vg0 prs rb rv n _ ⟨k0,e0,Ja3 hb _⟩ h0 hn) ?_
 simp only [push_cast,simprocAttr,bl,U2]
 apply J0
 refine AW.q fun K J0=>?_
 refine AW.sr 1 fun K J1=>?_
 simp only [push_cast,simprocAttr,bl,U2]
 refine AW.w 4 Tru Tru ?_
 refine AW.q fun K J0=>?_
 refine AW.sr 1 fun K J1=>?_
 simp only [push_cast,simprocAttr,bl,U2]
 refine AW.w 2 Tru Tru ?_
 refine AW.nilCell 255 16 (m.length+2) 0 (by simp only [push_cast,simprocAttr,bl,U2];first|done|rfl) (by intro e;cases e) rfl ?_
 try simp only [push_cast,simprocAttr,bl,U2]
 refine AW.nilCell 3 1 (m.length+2) 1 (by simp only [push_cast,simprocAttr,bl,U2];first|done|rfl) (by intro e;cases e) rfl ?_
 try simp only [push_cast,simprocAttr,bl,U2]
 refine AW.nilCell 59 3 (m.length+2) 3 (by simp only [push_cast,simprocAttr,bl,U2];first|done|rfl) (by intro e;cases e) rfl ?_
 try simp only [push_cast,simprocAttr,bl,U2]
 refine AW.loopK [0,2,3,19,20] (fun i=>i<=n) (fun i=>[(21,.one (.int .i64 (i:Int)))]) (fun i=>[(m.length+2,⟨.fix,314,0,0,[.sl (m.length+3) 0 0 0,.sl (m.length+4) i 0 i,.sl (m.length+1) 0 0 n,.sl (m.length+5) i 0 i]⟩),(m.length+4,⟨.grow,3,i,1,iC (List.range i)⟩),(m.length+5,⟨.grow,59,i,3,Jb0 i (vF (Qp1 prs))⟩)]) (fun i=>n - i) 0 (by omega) ?_ ?_ fun i hi3=>?_
 · first|rfl|(simp only [KS,simprocAttr,Jb0,Int.natCast_zero,List.range_zero,iC,List.map_nil]<;>repeat' (first|rfl|apply And.intro))
 · (simp only [Ja4,push_cast,simprocAttr,Jb0,List.range_zero,iC,List.map_nil])<;>rfl
 try simp only [Jb3,Ja4,push_cast,simprocAttr,bl,U2]
 refine AW.sr 1 fun K J1=>?_
 simp only [push_cast,simprocAttr,bl,U2]
 refine AW.w 2 Tru Tru fun K J1=>?_
 refine AW.cond rfl (fun h22=>?_) (fun h22=>?_)
 ·have hlt:i<n:=by have:=of_decide_eq_true h22;omega
  have c1:(0:Int)<=(i:Int):=by omega
  have c2:(i:Int)<(n:Int):=by omega
  have c1:(0:Int)<=(i:Int):=by omega
  have c2:(i:Int)<(n:Int):=by omega
  have c3:i*12+12<=n*12:=by omega
  have ga:=Jb5 (w:=12) (F:=prF prs) (fun _=>rfl) hlt
  have gx:=Qv1 prs i
  have p1:i<=140737488355327:=by omega
  have p2:(i+1)*24<=140737488355328:=by omega
  have p3:(i+1)*8<=140737488355328:=by omega
  have gl1:(iC (List.range i)).length=i:=by rw [Jf5,List.length_range]
  have gl2:(Jb0 i (vF (Qp1 prs))).length=i*3:=Ja5 (w:=3) (F:=vF (Qp1 prs)) (fun _=>rfl) _
  have hap1:iC (List.range i)++[.int .i64 (i:Int)]=iC (List.range (i+1)):=by rw [Jt5,List.range_succ]
  have hap2:Jb0 i (vF (Qp1 prs))++[.int .i64 (Xi2 (Jn4 (prs i)) 0),.int .i64 (Xi2 (Jn4 (prs i)) 1),.int .i64 (Xi2 (Jn4 (prs i)) 2)]=Jb0 (i+1) (vF (Qp1 prs)):=rfl
  refine AW.w 4 Tru Tru fun K J1=>?_
  refine AW.sr 2 fun K J2=>?_
  have U3:=ca4 U2 c1 c2 (ca4 c3 ga gx (ca4 p1 p2 p3 (ca3 gl1 gl2 hlt)))
  simp only [push_cast,simprocAttr,bl,prC,bxC,c3C,U3]
  apply J2
  refine AW.draw [.val,.val,.val,.val,.rd 0,.rd 0,.ext,.ext,.ext,.wr,.val,.val,.wr] fol (by decide) (by kernel_rfl) ?_
  simp only [push_cast,simprocAttr,bl,prC,bxC,c3C,U3]
  refine DCall.z (Qd8 (prs i) _) ?_
  simp only [push_cast,simprocAttr,bl,prC,bxC,c3C,U3]
  refine DCall.z (Vg7 (Jn4 (prs i)) _) ?_
  simp only [push_cast,simprocAttr,bl,prC,bxC,c3C,U3]
  refine DExt.by (by first|rfl|exact (List.append_nil _).symm|(simp only [List.append_assoc,List.cons_append,List.nil_append];rfl)) ?_
  simp only [push_cast,simprocAttr,bl,prC,bxC,c3C,U3]
  refine AW.w 1 Tru Tru ?_
  refine AW.rg ?_
  simp only [push_cast,simprocAttr,bl,prC,bxC,c3C,U3]
  apply Jo5
  have hwi:IntKind.i64.wrap ((i:Int)+1)=(i:Int)+1:=wi (by omega)
  refine ⟨i+1,by omega,by omega,?_⟩
  try simp only [Jb3,Ja4,push_cast,simprocAttr,bl,prC,bxC,c3C,U3,hwi,hap1,hap2]
  exact Weak.to (extra:=_) (by simp only [KS,simprocAttr,hwi,hap1,hap2]) (by first|rfl|(simp only [List.append_assoc,List.cons_append,List.nil_append];rfl)) (by first|rfl|(simp [AV.below,CV.below];done)|(simp [AV.below,CV.below];omega)) (by exact MWf.app (hwf.grow (by simp)) (Ja0 rfl (Ja0 (Jb4 _ (fun _=>rfl) _) (Ja0 (by simp [CV.below]) (Ja0 rfl (Ja0 (Jf4 _ _) (Ja0 (Jb4 _ (fun _=>rfl) _) Jb1)))))))
 have hin:i=n:=by have:=of_decide_eq_false h22;omega
 rw [hin]
 refine AW.w 2 Tru Tru ?_
 refine AW.sr 1 fun K J0=>?_
 simp only [push_cast,simprocAttr,bl,U2]
 refine CThen.by ((by have h:=Vp6 ⟨m.length+2,m.length+3,m.length+4,m.length+1,0,n,m.length+5,n,n,1⟩ prs (Qp1 prs) n 0 n (List.range n,[]);rw [show Jp5 prs (Qp1 prs) n 0 n (List.range n,[])=Jh1 prs n from rfl] at h;exact h _ (by omega) h0 (by simp) (fun x hx=>by simp at hx;simp [hx]) (by simpa using hn) (by simp;omega) ⟨by simp,by simp,by simp,by simp,by simp,by simp,by simp,by simp,⟨.grow,12,by rw [Jf1];rfl⟩,⟨.grow,3,by rw [Jf1];rfl⟩,hn⟩ ⟨Nat.le_refl _,fun _ _ _ _ _=>rfl,by rw [Jf1];simp [TB.wC],by rw [Jf1];rfl,by rw [Jf1];rfl⟩)) ?_
 simp only [push_cast,simprocAttr,bl,U2]
 apply J0
 refine AW.sr 1 fun K J0=>?_
 simp only [push_cast,simprocAttr,bl,U2,tM,TB.wC,hst]
 refine AW.w 2 Tru Tru ?_
 refine hQ _ _ _ ?_
 refine RetP.pick [(m.length+3,(Jh1 prs n).2.length),(m.length+4,n)] (by first|exact Or.inr rfl|exact Or.inl rfl) ?_ ?_ ?_ hwf ?_
 · simp only [Jd3,Ja9,Jb6,AV.tv,push_cast,simprocAttr]
   simp [Km6,Kq7,Kb1,Js3,Jh0,hlt0]
 · (simp only [Jm9,push_cast,simprocAttr])<;>rfl
 · simp [Jc4]
 exact Ja0 (Jb4 _ (fun _=>rfl) _) (Ja0 (Jf4 _ _) Jb1)
def mF (mv:Nat->MV)(i:Nat):List CV:=mvC (mv i)
theorem Xi3 (mv:Nat->MV)(i:Nat):mF mv i=[.int .i64 (mv i).A.kind,.int .i64 (mv i).A.paint,.int .i64 ((mv i).A.P 0 0),.int .i64 ((mv i).A.P 0 1),.int .i64 ((mv i).A.P 0 2),.int .i64 ((mv i).A.P 1 0),.int .i64 ((mv i).A.P 1 1),.int .i64 ((mv i).A.P 1 2),.int .i64 ((mv i).A.P 2 0),.int .i64 ((mv i).A.P 2 1),.int .i64 ((mv i).A.P 2 2),.int .i64 (mv i).A.r,.int .i64 (mv i).B.kind,.int .i64 (mv i).B.paint,.int .i64 ((mv i).B.P 0 0),.int .i64 ((mv i).B.P 0 1),.int .i64 ((mv i).B.P 0 2),.int .i64 ((mv i).B.P 1 0),.int .i64 ((mv i).B.P 1 1),.int .i64 ((mv i).B.P 1 2),.int .i64 ((mv i).B.P 2 0),.int .i64 ((mv i).B.P 2 1),.int .i64 ((mv i).B.P 2 2),.int .i64 (mv i).B.r]:=rfl
noncomputable def prM (mv:Nat->MV)(i:Nat):PR:=Jz9 (mv i)
theorem Vr9 (mv:Nat->MV)(rb rv n:Nat)(m:Ja1)(hb:∃ k ez,m[rb]?=some ⟨k,204,rv,ez,Jb0 n (mF mv)⟩)(hn:n<=128)(h0:0<n):Ctr Tryz.prog 36 [.one (.sl rb rv 0 n)] m (.agg [.sl m.length 0 0 (Jh1 (prM mv) n).2.length,.sl (m.length+1) 0 0 n,.sl (m.length+2) 0 0 n]) (m++[⟨.grow,255,0,16,ndL (Jh1 (prM mv) n).2⟩,⟨.grow,3,0,1,iC (Jh1 (prM mv) n).1⟩,⟨.grow,204,0,24,Jb0 n (mF mv)⟩]):=by
 refine Ctr.en Tryz.func36 [.cell 2 128] 27 fun hwf Q hQ=>?_
 obtain ⟨k0,e0,hb⟩:=hb
 have lb:=Ja8 hb
 have bl:(Jb0 n (mF mv)).length=n*24:=Ja5 (w:=24) (F:=mF mv) (fun _=>rfl) _
 have bv:(Jb0 n (mF mv)).all CV.isVal=true:=Jb4 _ (fun _=>rfl) _
 have bt:List.take (n*24) (Jb0 n (mF mv))=Jb0 n (mF mv):=List.take_of_length_le (by omega)
 have q1:n<=140737488355327:=by omega
 have q2:n*192<=140737488355328:=by omega
 have q3:n*24<=140737488355328:=by omega
 have q4:n<=140737488355328:=by omega
 have hlt0:∀ k,¬m.length+k<m.length:=fun k=>by omega
 have U1:=ca4 hb (Ja3 hb) bl (ca4 bv bt q1 (ca4 q2 q3 q4 h0))
 refine AW.w 6 U1 Tru fun K J0=>?_
 refine AW.nilTm 234 12 3 rfl ?_
 try simp only [push_cast,simprocAttr,U1]
 refine AW.loopK [2,4,11,12] (fun i=>i<=n) (fun i=>[(3,.one (.sl (m.length+3) i 0 i)),(13,.one (.int .i64 (i:Int)))]) (fun i=>[(m.length+3,⟨.grow,234,i,12,Jb0 i (prF (prM mv))⟩)]) (fun i=>n - i) 0 (by omega) ?_ ?_ fun i hi2=>?_
 · first|rfl|(simp only [KS,simprocAttr,Jb0,Int.natCast_zero]<;>repeat' (first|rfl|apply And.intro))
 · (simp only [Ja4,push_cast,simprocAttr,Jb0])<;>rfl
 try simp only [Jb3,Ja4,push_cast,simprocAttr,U1]
 refine AW.w 2 U1 Tru fun K J1=>?_
 refine AW.cond rfl (fun h14=>?_) (fun h14=>?_)
 ·have hlt:i<n:=by have:=of_decide_eq_true h14;omega
  have c1:(0:Int)<=(i:Int):=by omega
  have c2:(i:Int)<(n:Int):=by omega
  have c1:(0:Int)<=(i:Int):=by omega
  have c2:(i:Int)<(n:Int):=by omega
  have c3:i*24+24<=n*24:=by omega
  have ga:=Jb5 (w:=24) (F:=mF mv) (fun _=>rfl) hlt
  have gx:=Xi3 mv i
  have p1:i<=140737488355327:=by omega
  have p2:(i+1)*96<=140737488355328:=by omega
  have gl2:(Jb0 i (prF (prM mv))).length=i*12:=Ja5 (w:=12) (F:=prF (prM mv)) (fun _=>rfl) _
  have hap:Jb0 i (prF (prM mv))++[.int .i64 ((Jz9 (mv i)).a.lo 0),.int .i64 ((Jz9 (mv i)).a.lo 1),.int .i64 ((Jz9 (mv i)).a.lo 2),.int .i64 ((Jz9 (mv i)).a.hi 0),.int .i64 ((Jz9 (mv i)).a.hi 1),.int .i64 ((Jz9 (mv i)).a.hi 2),.int .i64 ((Jz9 (mv i)).b.lo 0),.int .i64 ((Jz9 (mv i)).b.lo 1),.int .i64 ((Jz9 (mv i)).b.lo 2),.int .i64 ((Jz9 (mv i)).b.hi 0),.int .i64 ((Jz9 (mv i)).b.hi 1),.int .i64 ((Jz9 (mv i)).b.hi 2)]=Jb0 (i+1) (prF (prM mv)):=rfl
  refine AW.w 4 Tru Tru fun K J1=>?_
  have U2:=ca4 U1 c1 c2 (ca4 c3 ga gx (ca4 p1 p2 gl2 (ca4 hlt @Kb2 @Je9 @Ja6)))
  refine AW.w 4 U2 (Vg5 (mv i)) ?_
  have hwi:IntKind.i64.wrap ((i:Int)+1)=(i:Int)+1:=wi (by omega)
  refine ⟨i+1,by omega,by omega,?_⟩
  try simp only [Jb3,Ja4,push_cast,simprocAttr,U2,hwi,hap]
  exact Weak.to (extra:=_) (by simp only [KS,simprocAttr,hwi,hap]) (by first|rfl|(simp only [List.append_assoc,List.cons_append,List.nil_append];rfl)) (by first|rfl|(simp [AV.below,CV.below];done)|(simp [AV.below,CV.below];omega)) (by exact MWf.app (hwf.grow (by simp)) (Ja0 rfl (Ja0 (Jb4 _ (fun _=>rfl) _) (Ja0 (by simp [CV.below]) (Ja0 (Jb4 _ (fun _=>rfl) _) Jb1)))))
 have hin:i=n:=by have:=of_decide_eq_false h14;omega
 rw [hin]
 refine AW.w 2 Tru Tru ?_
 refine AW.sr 2 fun K J0=>?_
 simp only [push_cast,simprocAttr,U1]
 refine CThen.by (Vt1 (prM mv) (m.length+3) n n _ ⟨.grow,12,by rw [Jf1];rfl⟩ h0 hn) ?_
 simp only [push_cast,simprocAttr,U1]
 refine AW.w 2 Tru Tru ?_
 refine hQ _ _ _ ?_
 refine RetP.pick [(m.length+4,0),(m.length+5,0),(m.length+1,1)] (by first|exact Or.inr rfl|exact Or.inl rfl) ?_ ?_ ?_ hwf ?_
 · simp only [Jd3,Ja9,Jb6,AV.tv,push_cast,simprocAttr]
   simp [Km6,Kq7,Kb1,Js3,Jh0,hlt0]
 · (simp only [Jm9,push_cast,simprocAttr])<;>rfl
 · simp [Jc4]
 exact Ja0 (Jb4 _ (fun _=>rfl) _) (Ja0 (Jf4 _ _) (Ja0 (Jb4 _ (fun _=>rfl) _) Jb1))
theorem Vd1 (mv:Nat->MV)(rb rv n:Nat)(m:Ja1)(hb:∃ k ez,m[rb]?=some ⟨k,204,rv,ez,Jb0 n (mF mv)⟩)(hn:n<=128)(h0:n=0):Ctr Tryz.prog 36 [.one (.sl rb rv 0 n)] m (.agg [.nils,.nils,.sl m.length 0 0 n]) (m++[⟨.grow,204,0,24,Jb0 n (mF mv)⟩]):=by
 refine Ctr.en Tryz.func36 [.cell 2 128] 27 fun hwf Q hQ=>?_
 obtain ⟨k0,e0,hb⟩:=hb
 have lb:=Ja8 hb
 have bl:(Jb0 n (mF mv)).length=n*24:=Ja5 (w:=24) (F:=mF mv) (fun _=>rfl) _
 have bv:(Jb0 n (mF mv)).all CV.isVal=true:=Jb4 _ (fun _=>rfl) _
 have bt:List.take (n*24) (Jb0 n (mF mv))=Jb0 n (mF mv):=List.take_of_length_le (by omega)
 have q1:n<=140737488355327:=by omega
 have q2:n*192<=140737488355328:=by omega
 have q3:n*24<=140737488355328:=by omega
 have q4:n<=140737488355328:=by omega
 have hlt0:∀ k,¬m.length+k<m.length:=fun k=>by omega
 subst h0
 have U3:=ca4 hb (Ja3 hb) bl (ca4 bv bt q1 (ca3 q2 q3 q4))
 refine AW.w 6 U3 Tru fun K J0=>?_
 refine AW.r 1 ?_
 refine AW.w 9 U3 Qr1 fun K J1 K J2=>?_
 refine hQ _ _ _ ?_
 refine RetP.pick [(m.length+1,1)] (by first|exact Or.inr rfl|exact Or.inl rfl) ?_ ?_ ?_ hwf ?_
 · simp only [Jd3,Ja9,Jb6,AV.tv,push_cast,simprocAttr]
   simp [Km6,Kq7,Kb1,Js3,Jh0,hlt0]
 · (simp only [Jm9,push_cast,simprocAttr])<;>rfl
 · simp [Jc4]
 exact Ja0 (Jb4 _ (fun _=>rfl) _) Jb1
end Go.Proofs.YtaannomfigammaaGreat
