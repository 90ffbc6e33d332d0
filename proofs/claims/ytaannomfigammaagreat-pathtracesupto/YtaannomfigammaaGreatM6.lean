/- Walks and facts of this seat's program over abstract states, printed by programs of mine; no conditions but those that each theorem names. -/
import Derived.Test.YtaannomfigammaaGreatM5
set_option linter.unusedSimpArgs false
set_option linter.unusedVariables false
set_option maxRecDepth 100000
set_option maxHeartbeats 4000000
namespace Go.Proofs.YtaannomfigammaaGreat
open Go Go.Eng
noncomputable def Hq (r:RY)(mv:Nat->MV)(near far:Int)(i:Nat):Option Int:=Jr2 r (atM (mv i) r.part) near far
noncomputable def Jf0 (r:RY)(mv:Nat->MV):Option (Int × Nat)->HT
 | none=>ht0
 | some (t,i)=>⟨t,(i:Int),Je4 r t,Jj2 r (atM (mv i) r.part) t⟩
theorem Ki4 {H:Nat->Option Int}:∀ {n:Nat} {u:Int} {j:Nat},Jg9 H n=some (u,j)->j<n
 | 0,_,_,h=>by cases h
 | n+1,u,j,h=>by
  have h':Kv0 (Jg9 H n) n (H n)=some (u,j):=h
  unfold Kv0 at h'
  split at h'
  ·have:=Ki4 h';omega
  ·injection h' with h';injection h' with _ h';omega
  rename_i t u' j' hs
  split at h'
  ·injection h' with h';injection h' with _ h';omega
  have:=Ki4 (h'.symm ▸ hs:Jg9 H n=some (u,j));omega
theorem Qm7 (H:Nat->Option Int)(i:Nat):(H i=none/\Jg9 H (i+1)=Jg9 H i)\/(∃ t,H i=some t/\Jg9 H i=none/\Jg9 H (i+1)=some (t,i)) \/
  (∃ t u j,H i=some t/\Jg9 H i=some (u,j)/\t<u/\Jg9 H (i+1)=some (t,i))\/(∃ t u j,H i=some t/\Jg9 H i=some (u,j)/\¬t<u/\Jg9 H (i+1)=Jg9 H i):=by
 have h:Jg9 H (i+1)=Kv0 (Jg9 H i) i (H i):=rfl
 cases hi:H i with
 | none=>exact .inl ⟨rfl,by rw [h,hi];rfl⟩
 | some t =>
  cases hs:Jg9 H i with
  | none=>exact .inr (.inl ⟨t,rfl,rfl,by rw [h,hi,hs];rfl⟩)
  | some p =>
   obtain ⟨u,j⟩:=p
   have hj:=Ki4 hs
   by_cases g:t<u
   ·exact .inr (.inr (.inl ⟨t,u,j,rfl,rfl,g,by rw [h,hi,hs];exact if_pos (.inl g)⟩))
   exact .inr (.inr (.inr ⟨t,u,j,rfl,rfl,g,by rw [h,hi,hs];exact if_neg (fun q=>q.elim g fun q=>by omega)⟩))
theorem Kj2 (r:RY)(mv:Nat->MV)(rb rv n:Nat)(near far:Int)(m:Ja1)(hb:∃ k ez,m[rb]?=some ⟨k,78,rv,ez,Jb6 n (mF mv)⟩)(hn:n<=1000000):Ctr Tryz.prog 60 [.agg (ryC r),.one (.sl rb rv 0 n),.one (.int .i64 near),.one (.int .i64 far)] m (.tup [(true,htC (Jf0 r mv (Jg9 (Hq r mv near far) n))),(false,[.bool (Jg9 (Hq r mv near far) n).isSome])]) m:=by
 refine Ctr.en Tryz.func60 [.cell 8 183,.tmp 9] 48 fun hwf Q hQ=>?_
 obtain ⟨k0,e0,hb⟩:=hb
 have lb:=Jb4 hb
 have bl:(Jb6 n (mF mv)).length=n*24:=Ja9 (w:=24) (F:=mF mv) (fun _=>rfl) _
 have U1:=ca4 hb (Ja8 hb) bl (ca2 @Jh2 @Ja4)
 refine AW.c 3 U1 Z0 ?_
 refine AW.q fun K hK=>?_
 refine AW.c 1 U1 Z0 ?_
 apply AW.b
 refine AW.loopK [1,2,3,4,8,10] (fun i=>i<=n) (fun i=>[(11,.one (.bool (Jg9 (Hq r mv near far) i).isSome)),(12,.one (.int .i64 (i:Int)))]) (fun i=>[(m.length+2,⟨.fix,183,0,0,[.int .i64 (Jf0 r mv (Jg9 (Hq r mv near far) i)).t,.int .i64 (Jf0 r mv (Jg9 (Hq r mv near far) i)).i,.int .i64 ((Jf0 r mv (Jg9 (Hq r mv near far) i)).p 0),.int .i64 ((Jf0 r mv (Jg9 (Hq r mv near far) i)).p 1),.int .i64 ((Jf0 r mv (Jg9 (Hq r mv near far) i)).p 2),.int .i64 ((Jf0 r mv (Jg9 (Hq r mv near far) i)).n 0),.int .i64 ((Jf0 r mv (Jg9 (Hq r mv near far) i)).n 1),.int .i64 ((Jf0 r mv (Jg9 (Hq r mv near far) i)).n 2)]⟩)]) (fun i=>n - i) 0 (by omega) ?_ ?_ fun i hi2=>?_
 · first|rfl|(simp only [KS,simprocAttr,Jg9,Jf0,ht0,z0V,Int.natCast_zero,Option.isSome_none]<;>repeat' (first|rfl|apply And.intro))
 · first|rfl|(simp only [Ja3,push_cast,simprocAttr,Jg9,Jf0,ht0,z0V])<;>rfl
 try simp only [Jb2,Ja3,push_cast,simprocAttr,U1]
 refine AW.q fun K hK=>?_
 refine AW.c 1 U1 Z0 ?_
 refine AW.cond rfl (fun h18=>?_) (fun h18=>?_)
 ·have hlt:i<n:=by have:=of_decide_eq_true h18;omega
  have c1:(0:Int)<=(i:Int):=by omega
  have c2:(i:Int)<(n:Int):=by omega
  have c1:(0:Int)<=(i:Int):=by omega
  have c2:(i:Int)<(n:Int):=by omega
  have c3:i*24+24<=n*24:=by omega
  have ga:=Jc0 (w:=24) (F:=mF mv) (fun _=>rfl) hlt
  have gx:mF mv i=[.int .i64 (mv i).A.kind,.int .i64 (mv i).A.paint,.int .i64 ((mv i).A.P 0 0),.int .i64 ((mv i).A.P 0 1),.int .i64 ((mv i).A.P 0 2),.int .i64 ((mv i).A.P 1 0),.int .i64 ((mv i).A.P 1 1),.int .i64 ((mv i).A.P 1 2),.int .i64 ((mv i).A.P 2 0),.int .i64 ((mv i).A.P 2 1),.int .i64 ((mv i).A.P 2 2),.int .i64 (mv i).A.r,.int .i64 (mv i).B.kind,.int .i64 (mv i).B.paint,.int .i64 ((mv i).B.P 0 0),.int .i64 ((mv i).B.P 0 1),.int .i64 ((mv i).B.P 0 2),.int .i64 ((mv i).B.P 1 0),.int .i64 ((mv i).B.P 1 1),.int .i64 ((mv i).B.P 1 2),.int .i64 ((mv i).B.P 2 0),.int .i64 ((mv i).B.P 2 1),.int .i64 ((mv i).B.P 2 2),.int .i64 (mv i).B.r]:=rfl
  apply AW.z
  apply hK;clear hK
  refine AW.q fun K hK=>?_
  apply AW.b
  refine AW.q fun K hK=>?_
  rcases Qm7 (Hq r mv near far) i with ⟨ho,hst⟩|⟨t,ho,hs0,hst⟩|⟨t,u,j,ho,hs0,hg,hst⟩|⟨t,u,j,ho,hs0,hg,hst⟩
  ·have hth:htC (Ju1 r (atM (mv i) r.part) none).1=[.int .i64 0,.int .i64 0,.int .i64 0,.int .i64 0,.int .i64 0,.int .i64 0,.int .i64 0,.int .i64 0]:=rfl
   have htb:(Ju1 r (atM (mv i) r.part) none).2=false:=rfl
   have ho9:Jr2 r (atM (mv i) r.part) near far=none:=ho
   have hs0:=ho
   have q_1:=Ks4 r (mv i) near far
   rw [ho9] at q_1
   have U2:=ca4 U1 c1 c2 (ca4 c3 ga gx (ca3 hlt hth htb))
   refine AW.e [.rd 0,.val,.val,.val,.rd 0,.val,.val,.ext,.val,.val,.val,.fl,.wr,.val] fol U2 q_1 ?_
   apply hK;clear hK
   refine AW.q fun K hK=>?_
   refine AW.c 1 U2 Z0 ?_
   apply AW.y rfl
   apply AW.v
   apply Jb0
   clear hK
   apply Ja5
   apply hK;clear hK
   refine AW.g U2 Z0 ?_
   apply Jc1
   have hwi:IntKind.i64.wrap ((i:Int)+1)=(i:Int)+1:=wi (by omega)
   refine ⟨i+1,by omega,by omega,?_⟩
   try simp only [Jb2,Ja3,push_cast,simprocAttr,U2,hwi,hst,hs0]
   exact Weak.to (extra:=_) (by simp only [KS,simprocAttr,hwi,hst,hs0]) (by first|rfl|(simp only [List.append_assoc,List.cons_append,List.nil_append];rfl)) (by first|rfl|(simp [AV.below,CV.below];done)|(simp [AV.below,CV.below];omega)) (by
     first|exact hwf|refine MWf.app (hwf.grow (by simp)) ?_
     repeat (first|exact Jb8|(refine Ja0 ?_ ?_;· first|rfl|(simp [CV.below];done)|(simp [CV.below];omega))))
  ·have hth:htC (Ju1 r (atM (mv i) r.part) (some t)).1=[.int .i64 t,.int .i64 0,.int .i64 (Je4 r t 0),.int .i64 (Je4 r t 1),.int .i64 (Je4 r t 2),.int .i64 (Jj2 r (atM (mv i) r.part) t 0),.int .i64 (Jj2 r (atM (mv i) r.part) t 1),.int .i64 (Jj2 r (atM (mv i) r.part) t 2)]:=rfl
   have htb:(Ju1 r (atM (mv i) r.part) (some t)).2=true:=rfl
   have hbh:htC (Jf0 r mv (some (t,i)))=[.int .i64 t,.int .i64 (i:Int),.int .i64 (Je4 r t 0),.int .i64 (Je4 r t 1),.int .i64 (Je4 r t 2),.int .i64 (Jj2 r (atM (mv i) r.part) t 0),.int .i64 (Jj2 r (atM (mv i) r.part) t 1),.int .i64 (Jj2 r (atM (mv i) r.part) t 2)]:=rfl
   have ho9:Jr2 r (atM (mv i) r.part) near far=some t:=ho
   have q_2:=Ks4 r (mv i) near far
   rw [ho9] at q_2
   have U3:=ca4 U1 c1 c2 (ca4 c3 ga gx (ca4 hlt hs0 hth (ca2 htb hbh)))
   refine AW.e [.rd 0,.val,.val,.val,.rd 0,.val,.val,.ext,.val,.val,.val,.fl,.wr,.val] fol U3 q_2 ?_
   apply hK;clear hK
   refine AW.q fun K hK=>?_
   refine AW.c 1 U3 Z0 ?_
   apply AW.x rfl
   apply AW.z
   apply hK;clear hK
   refine AW.c 2 U3 Z0 ?_
   apply AW.y rfl
   refine AW.c 1 U3 Z0 ?_
   refine AW.g U3 Z0 ?_
   apply Ja6
   apply hK;clear hK
   refine AW.g U3 Z0 ?_
   apply Jc1
   have hwi:IntKind.i64.wrap ((i:Int)+1)=(i:Int)+1:=wi (by omega)
   refine ⟨i+1,by omega,by omega,?_⟩
   try simp only [Jb2,Ja3,push_cast,simprocAttr,U3,hwi,hst,hs0]
   exact Weak.to (extra:=_) (by simp only [KS,simprocAttr,hwi,hst,hs0]) (by first|rfl|(simp only [List.append_assoc,List.cons_append,List.nil_append];rfl)) (by first|rfl|(simp [AV.below,CV.below];done)|(simp [AV.below,CV.below];omega)) (by
     first|exact hwf|refine MWf.app (hwf.grow (by simp)) ?_
     repeat (first|exact Jb8|(refine Ja0 ?_ ?_;· first|rfl|(simp [CV.below];done)|(simp [CV.below];omega))))
  ·have hth:htC (Ju1 r (atM (mv i) r.part) (some t)).1=[.int .i64 t,.int .i64 0,.int .i64 (Je4 r t 0),.int .i64 (Je4 r t 1),.int .i64 (Je4 r t 2),.int .i64 (Jj2 r (atM (mv i) r.part) t 0),.int .i64 (Jj2 r (atM (mv i) r.part) t 1),.int .i64 (Jj2 r (atM (mv i) r.part) t 2)]:=rfl
   have htb:(Ju1 r (atM (mv i) r.part) (some t)).2=true:=rfl
   have hbh:htC (Jf0 r mv (some (t,i)))=[.int .i64 t,.int .i64 (i:Int),.int .i64 (Je4 r t 0),.int .i64 (Je4 r t 1),.int .i64 (Je4 r t 2),.int .i64 (Jj2 r (atM (mv i) r.part) t 0),.int .i64 (Jj2 r (atM (mv i) r.part) t 1),.int .i64 (Jj2 r (atM (mv i) r.part) t 2)]:=rfl
   have ho9:Jr2 r (atM (mv i) r.part) near far=some t:=ho
   have hbt:(Jf0 r mv (some (u,j))).t=u:=rfl
   have q_3:=Ks4 r (mv i) near far
   rw [ho9] at q_3
   have U4:=ca4 U1 c1 c2 (ca4 c3 ga gx (ca4 hlt hs0 hth (ca4 htb hbh hbt hg)))
   refine AW.e [.rd 0,.val,.val,.val,.rd 0,.val,.val,.ext,.val,.val,.val,.fl,.wr,.val] fol U4 q_3 ?_
   apply hK;clear hK
   refine AW.q fun K hK=>?_
   refine AW.c 1 U4 Z0 ?_
   apply AW.x rfl
   apply AW.z
   apply hK;clear hK
   refine AW.c 2 U4 Z0 ?_
   apply AW.y rfl
   refine AW.c 1 U4 Z0 ?_
   refine AW.g U4 Z0 ?_
   apply Ja6
   apply hK;clear hK
   refine AW.g U4 Z0 ?_
   apply Jc1
   have hwi:IntKind.i64.wrap ((i:Int)+1)=(i:Int)+1:=wi (by omega)
   refine ⟨i+1,by omega,by omega,?_⟩
   try simp only [Jb2,Ja3,push_cast,simprocAttr,U4,hwi,hst,hs0]
   exact Weak.to (extra:=_) (by simp only [KS,simprocAttr,hwi,hst,hs0]) (by first|rfl|(simp only [List.append_assoc,List.cons_append,List.nil_append];rfl)) (by first|rfl|(simp [AV.below,CV.below];done)|(simp [AV.below,CV.below];omega)) (by
     first|exact hwf|refine MWf.app (hwf.grow (by simp)) ?_
     repeat (first|exact Jb8|(refine Ja0 ?_ ?_;· first|rfl|(simp [CV.below];done)|(simp [CV.below];omega))))
  have hth:htC (Ju1 r (atM (mv i) r.part) (some t)).1=[.int .i64 t,.int .i64 0,.int .i64 (Je4 r t 0),.int .i64 (Je4 r t 1),.int .i64 (Je4 r t 2),.int .i64 (Jj2 r (atM (mv i) r.part) t 0),.int .i64 (Jj2 r (atM (mv i) r.part) t 1),.int .i64 (Jj2 r (atM (mv i) r.part) t 2)]:=rfl
  have htb:(Ju1 r (atM (mv i) r.part) (some t)).2=true:=rfl
  have hbh:htC (Jf0 r mv (some (t,i)))=[.int .i64 t,.int .i64 (i:Int),.int .i64 (Je4 r t 0),.int .i64 (Je4 r t 1),.int .i64 (Je4 r t 2),.int .i64 (Jj2 r (atM (mv i) r.part) t 0),.int .i64 (Jj2 r (atM (mv i) r.part) t 1),.int .i64 (Jj2 r (atM (mv i) r.part) t 2)]:=rfl
  have ho9:Jr2 r (atM (mv i) r.part) near far=some t:=ho
  have hbt:(Jf0 r mv (some (u,j))).t=u:=rfl
  have q_4:=Ks4 r (mv i) near far
  rw [ho9] at q_4
  have U5:=ca4 U1 c1 c2 (ca4 c3 ga gx (ca4 hlt hs0 hth (ca4 htb hbh hbt hg)))
  refine AW.e [.rd 0,.val,.val,.val,.rd 0,.val,.val,.ext,.val,.val,.val,.fl,.wr,.val] fol U5 q_4 ?_
  apply hK;clear hK
  refine AW.q fun K hK=>?_
  refine AW.c 1 U5 Z0 ?_
  apply AW.x rfl
  apply AW.z
  apply hK;clear hK
  refine AW.c 2 U5 Z0 ?_
  apply AW.x rfl
  apply AW.z
  apply Ja6
  apply hK;clear hK
  refine AW.g U5 Z0 ?_
  apply Jc1
  have hwi:IntKind.i64.wrap ((i:Int)+1)=(i:Int)+1:=wi (by omega)
  refine ⟨i+1,by omega,by omega,?_⟩
  try simp only [Jb2,Ja3,push_cast,simprocAttr,U5,hwi,hst,hs0]
  exact Weak.to (extra:=_) (by simp only [KS,simprocAttr,hwi,hst,hs0]) (by first|rfl|(simp only [List.append_assoc,List.cons_append,List.nil_append];rfl)) (by first|rfl|(simp [AV.below,CV.below];done)|(simp [AV.below,CV.below];omega)) (by
    first|exact hwf|refine MWf.app (hwf.grow (by simp)) ?_
    repeat (first|exact Jb8|(refine Ja0 ?_ ?_;· first|rfl|(simp [CV.below];done)|(simp [CV.below];omega))))
 have hin:i=n:=by have:=of_decide_eq_false h18;omega
 rw [hin]
 apply AW.v
 apply Jb0
 clear hK
 apply Jb0
 apply Ja5
 apply hK;clear hK
 refine AW.c 1 U1 Z0 ?_
 exact AW.ret (hQ _ _ _ (RetP.z hwf Z0))
theorem Qy4 (w sb sv n:Nat)(cnt:Int)(l:List Nat)(m:Ja1)(hw:m[w]?=some ⟨.fix,251,0,0,[.sl sb sv 0 n,.int .i64 cnt]⟩)(hs:m[sb]?=some ⟨.grow,3,sv,1,iC l⟩)(hd:w≠sb)(h0:n=0):Ctr Tryz.prog 122 [.one (.ptr w 0 0)] m (.tup [(false,[.int .i64 0]),(false,[.bool false])]) m:=by
 refine Ctr.en Tryz.func122 [.tmp 2,.tmp 3] 39 fun hwf Q hQ=>?_
 subst h0
 have lw:=Jb4 hw
 have U1:=ca2 hw (Ja8 hw)
 refine AW.c 2 U1 Z0 ?_
 refine AW.q fun K hK=>?_
 refine AW.c 1 U1 Z0 ?_
 apply AW.y rfl
 refine AW.c 1 U1 Z0 ?_
 exact AW.ret (hQ _ _ _ (RetP.z hwf U1))
theorem Kt4 (w sb sv:Nat)(cnt:Int)(l:List Nat)(x:Nat)(m:Ja1)(hw:m[w]?=some ⟨.fix,251,0,0,[.sl sb sv 0 (l.length+1),.int .i64 cnt]⟩)(hs:m[sb]?=some ⟨.grow,3,sv,1,iC (l++[x])⟩)(hd:w≠sb)(hc:0<=cnt/\cnt<=1000000000)(hl:l.length<=1000000):Ctr Tryz.prog 122 [.one (.ptr w 0 0)] m (.tup [(false,[.int .i64 (x:Int)]),(false,[.bool true])]) ((m.set w ⟨.fix,251,0,0,[.sl sb sv 0 l.length,.int .i64 (cnt+1)]⟩).set sb ⟨.grow,3,sv,1,iC l⟩):=by
 refine Ctr.en Tryz.func122 [.tmp 2,.tmp 3] 39 fun hwf Q hQ=>?_
 have lw:=Jb4 hw
 have ls:=Jb4 hs
 have hds:=hd.symm
 have e1:(((l.length+1:Nat):Int) ==0)=false:=by simp;omega
 have e1b:(((l.length:Int)+1) ==0)=false:=by simp;omega
 have e2:IntKind.i64.wrap ((l.length:Int)+1 - 1)=(l.length:Int):=by rw [show (l.length:Int)+1 - 1=(l.length:Int) by omega];exact wi (by omega)
 have e3:IntKind.i64.wrap (cnt+1)=cnt+1:=wi (by omega)
 have e4:(0:Int)<=(l.length:Int):=by omega
 have e5:(l.length:Int)<(l.length:Int)+1:=by omega
 have e6:(l.length:Int)<=(l.length:Int)+1:=by omega
 have e7:(iC (l++[x]))[l.length]?=some (.int .i64 (x:Int)):=by rw [<-Jw8,List.getElem?_append_right (by rw [Jg5];omega),Jg5,Nat.sub_self];rfl
 have e8:(iC (l++[x])).length=l.length+1:=by rw [Jg5];simp
 have e9:l.length<=l.length+1:=by omega
 have e10:l.length<l.length+1:=by omega
 have ht:(iC (l++[x])).take l.length=iC l:=by rw [<-Jw8,List.take_append_of_le_length (by rw [Jg5];omega),List.take_of_length_le (by rw [Jg5];omega)]
 have k1:∀ B,(m.set w B)[sb]?=m[sb]?:=fun B=>List.getElem?_set_ne hd
 have k2:∀ B,(m.set w B)[w]?=some B:=fun B=>List.getElem?_set_self lw
 have U2:=ca4 hw (Ja8 hw) hs (ca4 (Ja8 hs) e1 e1b (ca4 e2 e3 e4 (ca4 e5 e6 e7 (ca4 e8 e9 e10 (ca4 k1 k2 hd hds)))))
 refine AW.c 2 U2 Z0 ?_
 refine AW.q fun K hK=>?_
 refine AW.c 1 U2 Z0 ?_
 apply AW.x rfl
 apply AW.z
 apply hK;clear hK
 refine AW.c 3 U2 Z0 ?_
 refine AW.cut sb l.length (b:=⟨.grow,3,sv,1,iC (l++[x])⟩) (by simp only [push_cast,simprocAttr,k1,hs,List.set_set]) rfl ?_
 simp only [push_cast,simprocAttr,ht,List.set_set]
 refine AW.c 1 U2 Z0 ?_
 refine AW.ret ?_
 refine hQ _ _ _ ?_
 refine RetP.dropM0 (by simp) (by first|exact Or.inr rfl|exact Or.inl rfl) ?_ ?_ (Jr6 (Jr6 hwf (by simp [CV.below];omega) rfl) (Jg6 _ _) rfl)
 · (simp only [Jd3,Ja7,Jb5,AV.tv,push_cast,simprocAttr])<;>rfl
 rfl
theorem Vw8 (a:Int):0<=Jn4 a:=by unfold Jn4;split<;>omega
theorem Qy6 (a:Int):0<=Jd8 a a:=by
 unfold Jd8
 have h:0<=Ja2 a*Ja2 a:=by
  rcases Int.le_total 0 (Ja2 a) with h|h
  ·exact Int.mul_nonneg h h
  exact Int.mul_nonneg_of_nonpos_of_nonpos h h
 have:=Jd1 (show (0:Int)<=Ja2 a*Ja2 a / 65536 by omega)
 have h0:Ja2 0=0:=by decide
 omega
theorem Vc7 {a b:Int}(ha:0<=a)(hb:0<=b):0<=Jd6 a b:=by
 unfold Jd6
 have h0:Ja2 0=0:=by decide
 have h1:=Jd1 ha
 have h2:=Jd1 hb
 have:=Jd1 (show (0:Int)<=Ja2 a+Ja2 b by omega)
 omega
theorem Xp9 (d:V):0<=Je8 d d:=by
 unfold Je8 Qd4
 exact Vc7 (Vc7 (Vc7 (Int.le_refl _) (Qy6 _)) (Qy6 _)) (Qy6 _)
theorem Vo5 (a b:V):Ja2 (Je8 a b)=Je8 a b:=by
 unfold Je8 Qd4 Jd6
 exact Jc4 (Jc8 _)
theorem Qp2 {a b d:Int}(hd:0<d)(h:a<=b):Jj5 a d<=Jj5 b d:=by
 unfold Jj5
 first
 | exact Int.ediv_le_ediv hd h
 | (split<;>first|exact Int.ediv_le_ediv hd h|omega)
theorem Vo6 {x y d:Int}(hd:0<Ja2 d)(h:Ja2 x<=Ja2 y):Jh1 x d<=Jh1 y d:=by
 unfold Jh1
 rw [if_neg (by omega),if_neg (by omega)]
 exact Jd1 (Qp2 hd (by omega))
theorem Qe1 (r:RY)(P:PL):(Jv7 r P).Pairwise (·<=·):=by
 unfold Jv7
 split
 ·split
  ·exact List.Pairwise.nil
  rename_i hne
  have hA:¬Je8 r.d r.d=0:=fun h=>hne (.inr h)
  have hd:0<Ja2 (Je8 r.d r.d):=by rw [Vo5];have:=Xp9 r.d;omega
  generalize Je8 (Jb3 r.o (P.P 0)) r.d=B
  generalize hR:Jn4 _=R
  have hr:0<=R:=by rw [<-hR];exact Vw8 _
  refine List.Pairwise.cons (fun t ht=>?_) (List.Pairwise.cons (fun t ht=>by cases ht) List.Pairwise.nil)
  simp only [List.mem_cons,List.not_mem_nil,or_false] at ht
  subst ht
  refine Vo6 hd ?_
  have hb:=Jc8 B
  have h0:Ja2 (-Ja2 B)=-Ja2 B:=Jc4 (by omega)
  have h1:=Jd1 hr
  have h2:Ja2 0=0:=by decide
  refine Jd1 ?_
  unfold Jf5
  rw [h0]
  exact Jd1 (by omega)
 split
 ·exact List.Pairwise.nil
 exact List.Pairwise.cons (fun t ht=>by cases ht) List.Pairwise.nil
theorem Vd3 (r:RY)(mv:Nat->MV)(near far:Int)(i:Nat)(t:Int)(h:Hq r mv near far i=some t):t<=far:=(Vs6 h).2.1
open Classical in
theorem Xt4 (r:RY)(mv:Nat->MV)(near far:Int)(i:Nat)(t:Int)(h:Hq r mv near far i=some t):Ka6 (atM (mv i) r.part) r near far t:=by
 obtain ⟨h1,h2,h3,_⟩:=Vs6 h
 exact ⟨h1,h2,of_decide_eq_true h3⟩
theorem Xg6 (r:RY)(mv:Nat->MV){near far far':Int}(h:far'<=far)(i:Nat):Hq r mv near far' i=(Hq r mv near far i).filter fun t=>decide (t<=far'):=Qi5 h (Qe1 r _)
theorem Qy1 {r:RY}{mv:Nat->MV}{near far far':Int}{p:PR}{i:Nat}{t:Int}(hc:∀ u q,Ka0 (atP (prM mv i) u) q->Ka0 (atP p u) q)(hm:¬Jt6 (atP p r.part) (Jz2 r near far'))(h:Hq r mv near far i=some t):far'<t:=by
 refine Int.not_le.1 fun hle=>hm ?_
 obtain ⟨h1,h2,h3⟩:=Xt4 r mv near far i t h
 exact Vj2 (hc _ _ (Xb3 (ry_b r t) h3)) (Vf3 r (Int.le_of_lt h1) hle)
def Jx8 (l:List ND)(i:Nat):ND:=(l[i]?).getD ⟨⟨⟨fun _=>0,fun _=>0⟩,⟨fun _=>0,fun _=>0⟩⟩,-1,-1,0,0⟩
def Xh0 (prs:Nat->PR)(l:List ND)(o:List Nat)(at' x:Nat):Prop:=∀ i u q,o[x]?=some i->Ka0 (atP (prs i) u) q->Ka0 (atP (Jx8 l at').p u) q
theorem Qy2 {l:List ND}{C:Nat->Nat->Prop}{t:TR}{a b:Nat}(h:Fit (Jx8 l) C t a b):t.root<l.length:=by
 refine Classical.byContradiction fun hn=>?_
 have e:Jx8 l t.root=⟨⟨⟨fun _=>0,fun _=>0⟩,⟨fun _=>0,fun _=>0⟩⟩,-1,-1,0,0⟩:=by unfold Jx8;rw [List.getElem?_eq_none (by omega)];rfl
 cases h with
 | leaf at' _ _ h1 _ _ hc _=>have e:Jx8 l at'=_:=e;rw [e] at hc;have hc:(0:Int)=_:=hc;omega
 | node at' l' r' _ _ _ hc hl hr _ _ _=>have e:Jx8 l at'=_:=e;rw [e] at hl;have hl:(-1:Int)=_:=hl;omega
theorem Vi6 {l:List ND}{i:Nat}(h:i<l.length):Jx8 l i=l.getD i nd0:=by unfold Jx8;rw [List.getD_eq_getElem?_getD,List.getElem?_eq_getElem h];rfl
theorem Ve9 (prs:Nat->PR){n:Nat}(h0:0<n):∃ t,Fit (Jx8 (Ji5 prs n).2) (Xh0 prs (Ji5 prs n).2 (Ji5 prs n).1) t 0 n/\t.root=0/\(Ji5 prs n).1.Perm (List.range n)/\(Ji5 prs n).1.length=n/\0<(Ji5 prs n).2.length/\(Ji5 prs n).2.length<=2*n:=by
 have k:=Jz7 (prs:=prs) (mid:=Qq9 prs) n 0 n (List.range n,[]) (by omega) h0 (by simp)
 have c:=Jt4 (prs:=prs) (mid:=Qq9 prs) n 0 n (List.range n,[]) (by omega) h0 (by simp)
 have e:Js2 prs (Qq9 prs) n 0 n (List.range n,[])=Ji5 prs n:=rfl
 rw [e] at k c
 have hl:(Ji5 prs n).1.length=n:=k.len.trans (by simp)
 obtain ⟨t,h1,h2⟩:=k.fit (Ji5 prs n).1 (Jx8 (Ji5 prs n).2) (List.Perm.refl _) (fun _ _ _=>rfl) (fun i nd _ hi=>by unfold Jx8;rw [hi];rfl)
 refine ⟨t,h1,h2,?_,hl,k.lt,by have:(Ji5 prs n).2.length+1<=0+2*(n - 0):=c;omega⟩
 have:=k.same.1
 have e1:Jk3 (List.range n) 0 n=List.range n:=by unfold Jk3;rw [List.drop_zero,Nat.sub_zero];exact List.take_of_length_le (by simp)
 have e2:Jk3 (Ji5 prs n).1 0 n=(Ji5 prs n).1:=by unfold Jk3;rw [List.drop_zero,Nat.sub_zero];exact List.take_of_length_le (by omega)
 have this:(Jk3 (List.range n) 0 n).Perm (Jk3 (Ji5 prs n).1 0 n):=this
 rw [e1,e2] at this
 exact this.symm
structure VW where
 (e f r u:V) (wd w h:Int)
def vwC (v:VW):List CV:=c3C v.e++(c3C v.f++(c3C v.r++(c3C v.u++[.int .i64 v.wd,.int .i64 v.w,.int .i64 v.h])))
def orV (a b:V):V:=if z3 a=true then b else a
noncomputable def Xh5 (s:SC)(x:Int):V:=orV (Jb7 (Jb3 (Jj7 s s.lk x) (Jj7 s s.ey x))) (v3V 0 0 65536)
noncomputable def rgtV (f:V):V:=orV (Jb7 (Jd4 (v3V 0 65536 0) f)) (v3V 65536 0 0)
noncomputable def Jn8 (s:SC)(x:Int):VW:=⟨Jj7 s s.ey x,Xh5 s x,rgtV (Xh5 s x),Jd4 (Xh5 s x) (rgtV (Xh5 s x)),s.wd,s.w,s.h⟩
theorem or_t (a b:V)(m:Ja1)(g:(a 0 ==0&&(a 1 ==0&&a 2 ==0))=true):Ctr Tryz.prog 105 [.agg (c3C a),.agg (c3C b)] m (.agg (c3C (orV a b))) m:=by
 refine Ctr.en Tryz.func105 [.cell 4 59] 10 fun hwf Q hQ=>?_
 have hv:orV a b=b:=if_pos g
 rw [hv] at hQ
 have U1:=ca2 @Ja4 g
 refine AW.c 1 U1 Z0 ?_
 refine AW.q fun K hK=>?_
 refine AW.c 1 U1 Z0 ?_
 apply AW.y rfl
 refine AW.c 1 U1 Z0 ?_
 exact AW.ret (hQ _ _ _ (RetP.z hwf Z0))
theorem or_f (a b:V)(m:Ja1)(g:(a 0 ==0&&(a 1 ==0&&a 2 ==0))=false):Ctr Tryz.prog 105 [.agg (c3C a),.agg (c3C b)] m (.agg (c3C (orV a b))) m:=by
 refine Ctr.en Tryz.func105 [.cell 4 59] 10 fun hwf Q hQ=>?_
 have hv:orV a b=a:=if_neg (by show ¬(a 0 ==0&&(a 1 ==0&&a 2 ==0))=true;rw [g];decide)
 rw [hv] at hQ
 have U2:=ca2 @Ja4 g
 refine AW.c 1 U2 Z0 ?_
 refine AW.q fun K hK=>?_
 refine AW.c 1 U2 Z0 ?_
 apply AW.x rfl
 apply AW.z
 apply hK;clear hK
 refine AW.c 1 U2 Z0 ?_
 exact AW.ret (hQ _ _ _ (RetP.z hwf Z0))
theorem or_c (a b:V)(m:Ja1):Ctr Tryz.prog 105 [.agg (c3C a),.agg (c3C b)] m (.agg (c3C (orV a b))) m:=by
 cases g:(a 0 ==0&&(a 1 ==0&&a 2 ==0))
 ·exact or_f a b m g
 exact or_t a b m g
theorem Qf2 (s:SC)(R:RWs)(x:Int)(m:Ja1)(hR:ScR 140 119 223 148 155 m s R)(hT:∀ i,i<s.nt->TrS s i):Ctr Tryz.prog 39 [.agg (scC s R),.one (.int .i64 x)] m (.agg (vwC (Jn8 s x))) m:=by
 refine Ctr.en Tryz.func39 [.cell 4 90] 44 fun hwf Q hQ=>?_
 obtain ⟨F,hF⟩:∃ F,F=Xh5 s x:=⟨_,rfl⟩
 obtain ⟨G,hG⟩:∃ G,G=rgtV F:=⟨_,rfl⟩
 have hv:vwC (Jn8 s x)=c3C (Jj7 s s.ey x)++(c3C F++(c3C G++(c3C (Jd4 F G)++[.int .i64 s.wd,.int .i64 s.w,.int .i64 s.h]))):=by rw [hG,hF];rfl
 rw [hv] at hQ
 have U3:=ca4 @Jg8 @Jg0 @Jg7 @Ja4
 refine AW.c 1 U3 Z0 ?_
 refine AW.d [.rd 0,.val,.ext,.val,.val,.rd 0,.val,.val,.rd 0,.val,.val,.rd 0,.val,.fl,.wr] fol U3 (eye_c s R x _ (hR.app _) hT) ?_
 have q_1:=or_c (Jb7 (Jb3 (Jj7 s s.lk x) (Jj7 s s.ey x))) (v3V 0 0 65536)
 rw [show orV (Jb7 (Jb3 (Jj7 s s.lk x) (Jj7 s s.ey x))) (v3V 0 0 65536)=F from hF.symm] at q_1
 refine AW.d [.rd 0,.val,.ext,.val,.rd 0,.ext,.ext,.ext,.ext,.val,.wr] fol U3 (ca4 (Xn8 s R x _ (hR.app _) hT) (Jk0 (Jj7 s s.lk x) (Jj7 s s.ey x)) (Jq9 (Jb3 (Jj7 s s.lk x) (Jj7 s s.ey x))) (ca2 Ky2 q_1)) ?_
 have q_2:=or_c (Jb7 (Jd4 (v3V 0 65536 0) F)) (v3V 65536 0 0)
 rw [show orV (Jb7 (Jd4 (v3V 0 65536 0) F)) (v3V 65536 0 0)=G from hG.symm] at q_2
 refine AW.d [.ext,.val,.rd 0,.ext,.ext,.ext,.ext,.val,.wr] fol U3 (ca4 Ky2 (Jn0 (v3V 0 65536 0) F) (Jq9 (Jd4 (v3V 0 65536 0) F)) q_2) ?_
 refine AW.c 2 U3 (Jn0 F G) ?_
 exact AW.ret (hQ _ _ _ (RetP.z hwf Z0))
theorem Qu2 (s:SC)(R:RWs)(x:Int)(m:Ja1)(hR:ScR 138 143 285 146 150 m s R)(hT:∀ i,i<s.nt->TrS s i)(hE:s.ey<(s.nt:Int))(hL:s.lk<(s.nt:Int)):Ctr Tryz.prog 25 [.agg (scC s R),.one (.int .i64 x)] m (.agg (vwC (Jn8 s x))) m:=by
 refine Ctr.en Tryz.func25 [.cell 4 87] 55 fun hwf Q hQ=>?_
 obtain ⟨F,hF⟩:∃ F,F=Xh5 s x:=⟨_,rfl⟩
 obtain ⟨G,hG⟩:∃ G,G=rgtV F:=⟨_,rfl⟩
 have hv:vwC (Jn8 s x)=c3C (Jj7 s s.ey x)++(c3C F++(c3C G++(c3C (Jd4 F G)++[.int .i64 s.wd,.int .i64 s.w,.int .i64 s.h]))):=by rw [hG,hF];rfl
 rw [hv] at hQ
 have U4:=ca4 @Jg8 @Jg0 @Jg7 @Ja4
 refine AW.c 1 U4 Z0 ?_
 refine AW.d [.rd 0,.val,.rd 0,.val,.ext,.val,.rd 0,.val,.val,.rd 0,.val,.val,.rd 0,.val,.fl,.wr] fol U4 (Qg3 s R s.ey x _ (hR.app _) hT hE) ?_
 refine AW.d [.rd 0,.val,.rd 0,.val,.ext,.val,.rd 0,.ext,.ext,.val,.wr] fol U4 (ca3 (Qg3 s R s.lk x _ (hR.app _) hT hL) (Jg1 (Jj7 s s.lk x) (Jj7 s s.ey x)) (Jm5 (Jb3 (Jj7 s s.lk x) (Jj7 s s.ey x)))) ?_
 refine AW.q fun K hK=>?_
 refine AW.c 1 U4 Z0 ?_
 refine AW.condJ rfl [4,5] [] [(m.length+2,⟨.fix,87,0,0,[.int .i64 (Jj7 s s.ey x 0),.int .i64 (Jj7 s s.ey x 1),.int .i64 (Jj7 s s.ey x 2),.int .i64 (F 0),.int .i64 (F 1),.int .i64 (F 2),.int .i64 0,.int .i64 0,.int .i64 0,.int .i64 0,.int .i64 0,.int .i64 0,.int .i64 s.wd,.int .i64 s.w,.int .i64 s.h]⟩)] (fun h33=>?_) (fun h33=>?_) ?_
 ·have hXe:F=v3V 0 0 65536:=by rw [hF];exact if_pos h33
  have f0:F 0=0:=by rw [hXe];rfl
  have f1:F 1=0:=by rw [hXe];rfl
  have f2:F 2=65536:=by rw [hXe];rfl
  refine AW.g U4 Z0 ?_
  apply Jc1
  try simp only [Jb2,Ja3,push_cast,simprocAttr,U4,f0,f1,f2]
  exact Weak.same (by simp only [KS,simprocAttr,f0,f1,f2]) (by first|rfl|simp only [KS,simprocAttr,f0,f1,f2])
 ·have hXe:F=(Jb7 (Jb3 (Jj7 s s.lk x) (Jj7 s s.ey x))):=by rw [hF];exact if_neg (fun q=>by rw [show z3 (Jb7 (Jb3 (Jj7 s s.lk x) (Jj7 s s.ey x)))=false from h33] at q;cases q)
  have f0:F 0=(Jb7 (Jb3 (Jj7 s s.lk x) (Jj7 s s.ey x))) 0:=by rw [hXe]
  have f1:F 1=(Jb7 (Jb3 (Jj7 s s.lk x) (Jj7 s s.ey x))) 1:=by rw [hXe]
  have f2:F 2=(Jb7 (Jb3 (Jj7 s s.lk x) (Jj7 s s.ey x))) 2:=by rw [hXe]
  apply AW.z
  apply Jc1
  try simp only [Jb2,Ja3,push_cast,simprocAttr,U4,f0,f1,f2]
  exact Weak.same (by simp only [KS,simprocAttr,f0,f1,f2]) (by first|rfl|simp only [KS,simprocAttr,f0,f1,f2])
 try simp only [Jb2,Ja3,push_cast,simprocAttr,U4]
 apply hK;clear hK
 refine AW.c 1 U4 (ca2 (Ji4 (v3V 0 65536 0) F) (Jm5 (Jd4 (v3V 0 65536 0) F))) ?_
 refine AW.q fun K hK=>?_
 refine AW.c 1 U4 Z0 ?_
 refine AW.condJ rfl [4,5] [] [(m.length+2,⟨.fix,87,0,0,[.int .i64 (Jj7 s s.ey x 0),.int .i64 (Jj7 s s.ey x 1),.int .i64 (Jj7 s s.ey x 2),.int .i64 (F 0),.int .i64 (F 1),.int .i64 (F 2),.int .i64 (G 0),.int .i64 (G 1),.int .i64 (G 2),.int .i64 0,.int .i64 0,.int .i64 0,.int .i64 s.wd,.int .i64 s.w,.int .i64 s.h]⟩)] (fun h45=>?_) (fun h45=>?_) ?_
 ·have hXe:G=v3V 65536 0 0:=by rw [hG];exact if_pos h45
  have f0:G 0=65536:=by rw [hXe];rfl
  have f1:G 1=0:=by rw [hXe];rfl
  have f2:G 2=0:=by rw [hXe];rfl
  refine AW.g U4 Z0 ?_
  apply Jc1
  try simp only [Jb2,Ja3,push_cast,simprocAttr,U4,f0,f1,f2]
  exact Weak.same (by simp only [KS,simprocAttr,f0,f1,f2]) (by first|rfl|simp only [KS,simprocAttr,f0,f1,f2])
 ·have hXe:G=(Jb7 (Jd4 (v3V 0 65536 0) F)):=by rw [hG];exact if_neg (fun q=>by rw [show z3 (Jb7 (Jd4 (v3V 0 65536 0) F))=false from h45] at q;cases q)
  have f0:G 0=(Jb7 (Jd4 (v3V 0 65536 0) F)) 0:=by rw [hXe]
  have f1:G 1=(Jb7 (Jd4 (v3V 0 65536 0) F)) 1:=by rw [hXe]
  have f2:G 2=(Jb7 (Jd4 (v3V 0 65536 0) F)) 2:=by rw [hXe]
  apply AW.z
  apply Jc1
  try simp only [Jb2,Ja3,push_cast,simprocAttr,U4,f0,f1,f2]
  exact Weak.same (by simp only [KS,simprocAttr,f0,f1,f2]) (by first|rfl|simp only [KS,simprocAttr,f0,f1,f2])
 try simp only [Jb2,Ja3,push_cast,simprocAttr,U4]
 apply hK;clear hK
 refine AW.c 2 U4 (Ji4 F G) ?_
 exact AW.ret (hQ _ _ _ (RetP.z hwf Z0))
def Xb6 (a b:VW)(t:Int):VW:=⟨Kf7 a.e b.e t,Kf7 a.f b.f t,Kf7 a.r b.r t,Kf7 a.u b.u t,a.wd,a.w,a.h⟩
theorem Kh7 (v:VW):vwC v=(c3C v.e++(c3C v.f++(c3C v.r++(c3C v.u++[.int .i64 v.wd,.int .i64 v.w,.int .i64 v.h])))):=rfl
theorem Xn4 (a b:VW)(t:Int)(m:Ja1):Ctr Tryz.prog 48 [.agg (vwC a),.agg (vwC b),.one (.int .i64 t)] m (.agg (vwC (Xb6 a b t))) m:=by
 refine Ctr.en Tryz.func48 [.cell 6 90] 36 fun hwf Q hQ=>?_
 have U1:=ca2 @Kh7 @Ja4
 refine AW.c 2 U1 (Kg1 a.e b.e t) ?_
 refine AW.d [.val,.rd 0,.val,.rd 0,.val,.ext,.val,.rd 0,.val,.rd 0,.val,.ext,.val,.rd 0,.val,.rd 0,.val,.ext,.val,.wr,.val,.wr,.val,.wr] fol U1 (ca3 (Kg1 a.f b.f t) (Kg1 a.r b.r t) (Kg1 a.u b.u t)) ?_
 refine AW.c 1 U1 Z0 ?_
 exact AW.ret (hQ _ _ _ (RetP.z hwf Z0))
theorem Vx1 (a b:VW)(t:Int)(m:Ja1):Ctr Tryz.prog 58 [.agg (vwC a),.agg (vwC b),.one (.int .i64 t)] m (.agg (vwC (Xb6 a b t))) m:=by
 refine Ctr.en Tryz.func58 [.cell 6 87] 38 fun hwf Q hQ=>?_
 have U2:=ca2 @Kh7 @Ja4
 refine AW.c 7 U2 (ca4 (Kb7 a.e b.e t) (Kb7 a.f b.f t) (Kb7 a.r b.r t) (Kb7 a.u b.u t)) ?_
 exact AW.ret (hQ _ _ _ (RetP.z hwf Z0))
def rayX (v:VW)(x dx:Int):Int:=Jh1 (Jf5 (2*Jd6 (ofI x) (Jb9 dx)) (ofI v.w)) (ofI v.h)
def rayY (v:VW)(y dy:Int):Int:=Jh1 (Jf5 (ofI v.h) (2*Jd6 (ofI y) (Jb9 dy))) (ofI v.h)
def rayD (v:VW)(px py:Int):V:=Je0 (Je0 (Je0 z0V v.f) (Je1 v.r (Jd8 px v.wd))) (Je1 v.u (Jd8 py v.wd))
noncomputable def Ve1 (v:VW)(x y dx dy part:Int):RY:=⟨v.e,orV (Jb7 (rayD v (rayX v x dx) (rayY v y dy))) v.f,part⟩
theorem Xh8 (v:VW)(x y dx dy part:Int)(m:Ja1):Ctr Tryz.prog 49 [.agg (vwC v),.one (.int .i64 x),.one (.int .i64 y),.one (.int .i64 dx),.one (.int .i64 dy),.one (.int .i64 part)] m (.agg (ryC (Ve1 v x y dx dy part))) m:=by
 refine Ctr.en Tryz.func49 [.cell 12 161] 69 fun hwf Q hQ=>?_
 obtain ⟨px,hx⟩:∃ p,rayX v x dx=p:=⟨_,rfl⟩
 obtain ⟨py,hy⟩:∃ p,rayY v y dy=p:=⟨_,rfl⟩
 have hx1:Jh1 (Jf5 (2*Jd6 (ofI x) (Jb9 dx)) (ofI v.w)) (ofI v.h)=px:=hx
 have hy1:Jh1 (Jf5 (ofI v.h) (2*Jd6 (ofI y) (Jb9 dy))) (ofI v.h)=py:=hy
 have b1:=Jc8 (Ja2 (ofI x)+Ja2 (Jb9 dx))
 have b2:=Jc8 (Ja2 (ofI y)+Ja2 (Jb9 dy))
 have w1:IntKind.i64.wrap (2*Jd6 (ofI x) (Jb9 dx))=2*Jd6 (ofI x) (Jb9 dx):=wi (by unfold Jd6;omega)
 have w2:IntKind.i64.wrap (2*Jd6 (ofI y) (Jb9 dy))=2*Jd6 (ofI y) (Jb9 dy):=wi (by unfold Jd6;omega)
 obtain ⟨D,hD⟩:∃ D,D=rayD v px py:=⟨_,rfl⟩
 obtain ⟨F,hF⟩:∃ F,F=orV (Jb7 D) v.f:=⟨_,rfl⟩
 have hv:ryC (Ve1 v x y dx dy part)=c3C v.e++(c3C F++[.int .i64 part]):=by unfold Ve1;rw [hx,hy,<-hD,<-hF];rfl
 rw [hv] at hQ
 have U3:=ca4 @Kh7 @Ja4 w1 (ca3 w2 hx1 hy1)
 refine AW.c 2 U3 Xh4 ?_
 refine AW.d [.val,.ext,.val,.ext,.ext,.val,.val,.rd 0,.ext,.ext,.val,.ext,.val] fol U3 (ca4 Xh4 Jy8 Jy7 (ca2 Jr8 Jq8)) ?_
 refine AW.c 1 U3 (ca4 Xh4 Jy8 Jy7 (ca2 Jr8 Jq8)) ?_
 refine AW.q fun K hK=>?_
 refine AW.draw [.val,.rd 0,.val,.rd 0,.val,.val,.rd 0,.ext,.ext,.val,.rd 0,.val,.val,.rd 0,.ext,.ext,.ext,.ext,.fl,.wr] fol (by decide) (by kernel_rfl) ?_
 simp only [push_cast,simprocAttr,U3]
 refine DCall.z (Jm2 _ _ _) ?_
 simp only [push_cast,simprocAttr,U3]
 refine DCall.z (Ju3 v.r (Jd8 px v.wd) _) ?_
 simp only [push_cast,simprocAttr,U3]
 refine DCall.z (Jm2 _ _ _) ?_
 simp only [push_cast,simprocAttr,U3]
 refine DCall.z (Ju3 v.u (Jd8 py v.wd) _) ?_
 simp only [push_cast,simprocAttr,U3]
 refine DExt.by (by first|rfl|exact (List.append_nil _).symm|(simp only [List.append_assoc,List.cons_append,List.nil_append];rfl)) ?_
 simp only [push_cast,simprocAttr,U3]
 refine DCall.z ((by have h9:=fun M r9 q=>Qb2 r9 0 (v.f 0) (v.f 1) (v.f 2) ((Je1 v.r (Jd8 px v.wd)) 0) ((Je1 v.r (Jd8 px v.wd)) 1) ((Je1 v.r (Jd8 px v.wd)) 2) ((Je1 v.u (Jd8 py v.wd)) 0) ((Je1 v.u (Jd8 py v.wd)) 1) ((Je1 v.u (Jd8 py v.wd)) 2) M q;have e9:([.int .i64 (Jd6 (Jd6 (Jd6 0 (v.f 0)) ((Je1 v.r (Jd8 px v.wd)) 0)) ((Je1 v.u (Jd8 py v.wd)) 0)),.int .i64 (Jd6 (Jd6 (Jd6 0 (v.f 1)) ((Je1 v.r (Jd8 px v.wd)) 1)) ((Je1 v.u (Jd8 py v.wd)) 1)),.int .i64 (Jd6 (Jd6 (Jd6 0 (v.f 2)) ((Je1 v.r (Jd8 px v.wd)) 2)) ((Je1 v.u (Jd8 py v.wd)) 2))]:List CV)=c3C D:=(by rw [hD];rfl);rw [e9] at h9;exact h9 _ _ ⟨.grow,3,by simp only [push_cast,simprocAttr]⟩)) ?_
 simp only [push_cast,simprocAttr,U3]
 apply hK;clear hK
 have q_1:=or_c (Jb7 D) v.f
 rw [<-hF] at q_1
 refine AW.d [.val,.rd 0,.rd 0,.ext,.val,.rd 0,.ext,.val,.val,.wr] fol U3 (ca2 (Jq9 D) q_1) ?_
 exact AW.ret (hQ _ _ _ (RetP.z hwf Z0))
theorem Qs3 (a:Int)(m:Ja1)(hw:IntKind.i64.wrap (2*a)=2*a):Ctr Tryz.prog 142 [.one (.int .i64 a)] m (.one (.int .i64 (2*a))) m:=by
 refine Ctr.en Tryz.func142 [.tmp 2] 5 fun hwf Q hQ=>?_
 refine AW.c 2 hw Z0 ?_
 exact AW.ret (hQ _ _ _ (RetP.z hwf hw))
theorem Vv1 (v:VW)(x y dx dy part:Int)(m:Ja1):Ctr Tryz.prog 59 [.agg (vwC v),.one (.int .i64 x),.one (.int .i64 y),.one (.int .i64 dx),.one (.int .i64 dy),.one (.int .i64 part)] m (.agg (ryC (Ve1 v x y dx dy part))) m:=by
 refine Ctr.en Tryz.func59 [.cell 12 180] 75 fun hwf Q hQ=>?_
 obtain ⟨px,hx⟩:∃ p,rayX v x dx=p:=⟨_,rfl⟩
 obtain ⟨py,hy⟩:∃ p,rayY v y dy=p:=⟨_,rfl⟩
 have hx1:Jh1 (Jf5 (2*Jd6 (ofI x) (Jb9 dx)) (ofI v.w)) (ofI v.h)=px:=hx
 have hy1:Jh1 (Jf5 (ofI v.h) (2*Jd6 (ofI y) (Jb9 dy))) (ofI v.h)=py:=hy
 have b1:=Jc8 (Ja2 (ofI x)+Ja2 (Jb9 dx))
 have b2:=Jc8 (Ja2 (ofI y)+Ja2 (Jb9 dy))
 have w1:IntKind.i64.wrap (2*Jd6 (ofI x) (Jb9 dx))=2*Jd6 (ofI x) (Jb9 dx):=wi (by unfold Jd6;omega)
 have w2:IntKind.i64.wrap (2*Jd6 (ofI y) (Jb9 dy))=2*Jd6 (ofI y) (Jb9 dy):=wi (by unfold Jd6;omega)
 obtain ⟨D,hD⟩:∃ D,D=rayD v px py:=⟨_,rfl⟩
 obtain ⟨F,hF⟩:∃ F,F=orV (Jb7 D) v.f:=⟨_,rfl⟩
 have hv:ryC (Ve1 v x y dx dy part)=c3C v.e++(c3C F++[.int .i64 part]):=by unfold Ve1;rw [hx,hy,<-hD,<-hF];rfl
 rw [hv] at hQ
 have U4:=ca4 @Kh7 @Ja4 hx1 hy1
 refine AW.c 2 U4 Qv4 ?_
 refine AW.d [.val,.ext,.val,.ext,.ext,.ext,.val,.rd 0,.ext,.ext,.val,.ext,.val] fol U4 (ca4 Qv4 Jr9 Jp0 (ca3 (Qs3 _ _ w1) Ji1 Ji3)) ?_
 refine AW.c 1 U4 (ca4 Qv4 Jr9 Jp0 (ca3 (Qs3 _ _ w2) Ji1 Ji3)) ?_
 have q_2:=Jt3 (Je0 (Je0 z0V v.f) (Je1 v.r (Jd8 px v.wd))) (Je1 v.u (Jd8 py v.wd))
 rw [show Je0 (Je0 (Je0 z0V v.f) (Je1 v.r (Jd8 px v.wd))) (Je1 v.u (Jd8 py v.wd))=D from hD.symm] at q_2
 refine AW.d [.val,.val,.rd 0,.ext,.val,.rd 0,.val,.val,.rd 0,.ext,.ext,.ext,.val,.rd 0,.val,.val,.rd 0,.ext,.ext,.ext,.fl,.wr] fol U4 (ca4 (Jt3 z0V v.f) Jg3 (Jp2 v.r (Jd8 px v.wd)) (ca3 (Jt3 (Je0 z0V v.f) (Je1 v.r (Jd8 px v.wd))) (Jp2 v.u (Jd8 py v.wd)) q_2)) ?_
 refine AW.c 1 U4 (Jm5 D) ?_
 refine AW.q fun K hK=>?_
 refine AW.c 1 U4 Z0 ?_
 refine AW.condJ rfl [5,6,12,17] [] [(m.length+3,⟨.fix,54,0,0,[.int .i64 (F 0),.int .i64 (F 1),.int .i64 (F 2)]⟩)] (fun h67=>?_) (fun h67=>?_) ?_
 ·have hXe:F=v.f:=by rw [hF];exact if_pos h67
  have f0:F 0=v.f 0:=by rw [hXe]
  have f1:F 1=v.f 1:=by rw [hXe]
  have f2:F 2=v.f 2:=by rw [hXe]
  refine AW.g U4 Z0 ?_
  apply Jc1
  try simp only [Jb2,Ja3,push_cast,simprocAttr,U4,f0,f1,f2]
  exact Weak.same (by simp only [KS,simprocAttr,f0,f1,f2]) (by first|rfl|simp only [KS,simprocAttr,f0,f1,f2])
 ·have hXe:F=(Jb7 D):=by rw [hF];exact if_neg (fun q=>by rw [show z3 (Jb7 D)=false from h67] at q;cases q)
  have f0:F 0=(Jb7 D) 0:=by rw [hXe]
  have f1:F 1=(Jb7 D) 1:=by rw [hXe]
  have f2:F 2=(Jb7 D) 2:=by rw [hXe]
  apply AW.z
  apply Jc1
  try simp only [Jb2,Ja3,push_cast,simprocAttr,U4,f0,f1,f2]
  exact Weak.same (by simp only [KS,simprocAttr,f0,f1,f2]) (by first|rfl|simp only [KS,simprocAttr,f0,f1,f2])
 try simp only [Jb2,Ja3,push_cast,simprocAttr,U4]
 apply hK;clear hK
 refine AW.c 1 U4 Z0 ?_
 exact AW.ret (hQ _ _ _ (RetP.z hwf Z0))
noncomputable def Jj8 (u v:Int):V:=v3V (Jd8 (Jn4 (Jf5 65536 (Jd8 (Jf5 65536 (2*Jb9 u)) (Jf5 65536 (2*Jb9 u))))) (Qd7 v)) (Jd8 (Jn4 (Jf5 65536 (Jd8 (Jf5 65536 (2*Jb9 u)) (Jf5 65536 (2*Jb9 u))))) (Ka5 v)) (Jf5 65536 (2*Jb9 u))
noncomputable def Jk1 (n:V)(u v:Int):V:=if Je8 (Jb7 (Je0 (Jj8 u v) n)) n<=0 then n else Jb7 (Je0 (Jj8 u v) n)
theorem Qc9 (u v:Int)(m:Ja1):Ctr Tryz.prog 197 [.one (.int .i64 u),.one (.int .i64 v)] m (.agg (c3C (Jj8 u v))) m:=by
 refine Ctr.en Tryz.func197 [.cell 4 59] 26 fun hwf Q hQ=>?_
 obtain ⟨z,hz⟩:∃ z,Jf5 65536 (2*Jb9 u)=z:=⟨_,rfl⟩
 have hu:=Js5 u
 have w1:IntKind.i64.wrap (2*Jb9 u)=2*Jb9 u:=wi (by omega)
 have w2:IntKind.i64.wrap (65536 - 2*Jb9 u)=z:=by
   rw [<-hz];unfold Jf5
   rw [Jc4 (show -2147483648<=(65536:Int)/\(65536:Int)<=2147483648 by omega),Jc4 (show -2147483648<=2*Jb9 u/\2*Jb9 u<=2147483648 by omega),Jc4 (by omega)]
   exact wi (by omega)
 have hv:c3C (Jj8 u v)=[.int .i64 (Jd8 (Jn4 (Jf5 65536 (Jd8 z z))) (Qd7 v)),.int .i64 (Jd8 (Jn4 (Jf5 65536 (Jd8 z z))) (Ka5 v)),.int .i64 z]:=by rw [<-hz];rfl
 rw [hv] at hQ
 have U1:=ca2 w1 hz
 refine AW.c 4 U1 (ca4 Jy8 Jr8 Jm2 (ca4 Kx0 Qf0 Kv3 Ky2)) ?_
 exact AW.ret (hQ _ _ _ (RetP.z hwf Z0))
theorem Ks9 (u v:Int)(m:Ja1):Ctr Tryz.prog 202 [.one (.int .i64 u),.one (.int .i64 v)] m (.agg (c3C (Jj8 u v))) m:=by
 refine Ctr.en Tryz.func202 [.cell 4 54] 26 fun hwf Q hQ=>?_
 obtain ⟨z,hz⟩:∃ z,Jf5 65536 (2*Jb9 u)=z:=⟨_,rfl⟩
 have hu:=Js5 u
 have w1:IntKind.i64.wrap (2*Jb9 u)=2*Jb9 u:=wi (by omega)
 have w2:IntKind.i64.wrap (65536 - 2*Jb9 u)=z:=by
   rw [<-hz];unfold Jf5
   rw [Jc4 (show -2147483648<=(65536:Int)/\(65536:Int)<=2147483648 by omega),Jc4 (show -2147483648<=2*Jb9 u/\2*Jb9 u<=2147483648 by omega),Jc4 (by omega)]
   exact wi (by omega)
 have hv:c3C (Jj8 u v)=[.int .i64 (Jd8 (Jn4 (Jf5 65536 (Jd8 z z))) (Qd7 v)),.int .i64 (Jd8 (Jn4 (Jf5 65536 (Jd8 z z))) (Ka5 v)),.int .i64 z]:=by rw [<-hz];rfl
 rw [hv] at hQ
 have U2:=ca2 w1 w2
 refine AW.c 4 U2 (ca4 Jr9 Jg3 Ji1 (ca3 Kj3 Kr9 Ki5)) ?_
 exact AW.ret (hQ _ _ _ (RetP.z hwf Z0))
theorem Xq0 (n:V)(u v:Int)(m:Ja1)(g:Je8 (Jb7 (Je0 (Jj8 u v) n)) n<=0):Ctr Tryz.prog 134 [.agg (c3C n),.one (.int .i64 u),.one (.int .i64 v)] m (.agg (c3C (Jk1 n u v))) m:=by
 refine Ctr.en Tryz.func134 [.cell 6 59] 20 fun hwf Q hQ=>?_
 have hv:Jk1 n u v=n:=if_pos g
 rw [hv] at hQ
 have U3:=ca2 @Ja4 g
 refine AW.c 1 U3 Z0 ?_
 refine AW.d [.val,.val,.ext,.rd 0,.ext,.ext,.fl,.wr] fol U3 (ca3 (Qc9 u v) (Qe4 (Jj8 u v) n) (Jq9 (Je0 (Jj8 u v) n))) ?_
 refine AW.q fun K hK=>?_
 refine AW.c 1 U3 (Jg4 (Jb7 (Je0 (Jj8 u v) n)) n) ?_
 apply AW.y rfl
 refine AW.c 1 U3 Z0 ?_
 exact AW.ret (hQ _ _ _ (RetP.z hwf Z0))
theorem Xq1 (n:V)(u v:Int)(m:Ja1)(g:¬Je8 (Jb7 (Je0 (Jj8 u v) n)) n<=0):Ctr Tryz.prog 134 [.agg (c3C n),.one (.int .i64 u),.one (.int .i64 v)] m (.agg (c3C (Jk1 n u v))) m:=by
 refine Ctr.en Tryz.func134 [.cell 6 59] 20 fun hwf Q hQ=>?_
 have hv:Jk1 n u v=(Jb7 (Je0 (Jj8 u v) n)):=if_neg g
 rw [hv] at hQ
 have U4:=ca2 @Ja4 g
 refine AW.c 1 U4 Z0 ?_
 refine AW.d [.val,.val,.ext,.rd 0,.ext,.ext,.fl,.wr] fol U4 (ca3 (Qc9 u v) (Qe4 (Jj8 u v) n) (Jq9 (Je0 (Jj8 u v) n))) ?_
 refine AW.q fun K hK=>?_
 refine AW.c 1 U4 (Jg4 (Jb7 (Je0 (Jj8 u v) n)) n) ?_
 apply AW.x rfl
 apply AW.z
 apply hK;clear hK
 refine AW.c 1 U4 Z0 ?_
 exact AW.ret (hQ _ _ _ (RetP.z hwf Z0))
theorem Qk2 (n:V)(u v:Int)(m:Ja1):Ctr Tryz.prog 134 [.agg (c3C n),.one (.int .i64 u),.one (.int .i64 v)] m (.agg (c3C (Jk1 n u v))) m:=by
 by_cases g:Je8 (Jb7 (Je0 (Jj8 u v) n)) n<=0
 ·exact Xq0 n u v m g
 exact Xq1 n u v m g
theorem Vz3 (n:V)(u v:Int)(m:Ja1)(g:Je8 (Jb7 (Je0 (Jj8 u v) n)) n<=0):Ctr Tryz.prog 153 [.agg (c3C n),.one (.int .i64 u),.one (.int .i64 v)] m (.agg (c3C (Jk1 n u v))) m:=by
 refine Ctr.en Tryz.func153 [.cell 6 54] 20 fun hwf Q hQ=>?_
 have hv:Jk1 n u v=n:=if_pos g
 rw [hv] at hQ
 have U5:=ca2 @Ja4 g
 refine AW.c 1 U5 Z0 ?_
 refine AW.d [.val,.val,.ext,.rd 0,.ext,.ext,.fl,.wr] fol U5 (ca3 (Ks9 u v) (Jt3 (Jj8 u v) n) (Jm5 (Je0 (Jj8 u v) n))) ?_
 refine AW.q fun K hK=>?_
 refine AW.c 1 U5 (Je3 (Jb7 (Je0 (Jj8 u v) n)) n) ?_
 apply AW.y rfl
 refine AW.c 1 U5 Z0 ?_
 exact AW.ret (hQ _ _ _ (RetP.z hwf Z0))
theorem Vz4 (n:V)(u v:Int)(m:Ja1)(g:¬Je8 (Jb7 (Je0 (Jj8 u v) n)) n<=0):Ctr Tryz.prog 153 [.agg (c3C n),.one (.int .i64 u),.one (.int .i64 v)] m (.agg (c3C (Jk1 n u v))) m:=by
 refine Ctr.en Tryz.func153 [.cell 6 54] 20 fun hwf Q hQ=>?_
 have hv:Jk1 n u v=(Jb7 (Je0 (Jj8 u v) n)):=if_neg g
 rw [hv] at hQ
 have U6:=ca2 @Ja4 g
 refine AW.c 1 U6 Z0 ?_
 refine AW.d [.val,.val,.ext,.rd 0,.ext,.ext,.fl,.wr] fol U6 (ca3 (Ks9 u v) (Jt3 (Jj8 u v) n) (Jm5 (Je0 (Jj8 u v) n))) ?_
 refine AW.q fun K hK=>?_
 refine AW.c 1 U6 (Je3 (Jb7 (Je0 (Jj8 u v) n)) n) ?_
 apply AW.x rfl
 apply AW.z
 apply hK;clear hK
 refine AW.c 1 U6 Z0 ?_
 exact AW.ret (hQ _ _ _ (RetP.z hwf Z0))
theorem Kt2 (n:V)(u v:Int)(m:Ja1):Ctr Tryz.prog 153 [.agg (c3C n),.one (.int .i64 u),.one (.int .i64 v)] m (.agg (c3C (Jk1 n u v))) m:=by
 by_cases g:Je8 (Jb7 (Je0 (Jj8 u v) n)) n<=0
 ·exact Vz3 n u v m g
 exact Vz4 n u v m g
def xsU (x:Int)(k:Nat):Int:=bits BinOp.xor .u64 x (x.fdiv (2 ^ min k IntKind.u64.bits))
def Qh5 (x:Int):Int:=xsU (IntKind.u64.wrap (xsU (IntKind.u64.wrap (xsU x 30*13787848793156543929)) 27*10723151780598845931)) 31
def Jt0 (h x:Int):Int:=Qh5 (IntKind.u64.wrap (h+11400714819323198485+x*11400714819323198485))
def Qc8 (a b c d e:Int):Int:=Qh5 (Jt0 (Jt0 (Jt0 (Jt0 (Jt0 5 a) b) c) d) e)
theorem Vr1 (h x:Int):IntKind.u64.wrap (IntKind.u64.wrap (h+11400714819323198485)+IntKind.u64.wrap (x*11400714819323198485))=IntKind.u64.wrap (h+11400714819323198485+x*11400714819323198485):=by
 rw [IntKind.wrap_u64,IntKind.wrap_u64,IntKind.wrap_u64,IntKind.wrap_u64];omega
theorem Xi9 (h x:Int):IntKind.u64.wrap (h+IntKind.u64.wrap (11400714819323198485*IntKind.u64.wrap (x+1)))=IntKind.u64.wrap (h+11400714819323198485+x*11400714819323198485):=by
 rw [IntKind.wrap_u64,IntKind.wrap_u64,IntKind.wrap_u64,IntKind.wrap_u64];omega
theorem Vr2 (h x:Int):Qh5 (IntKind.u64.wrap (h+11400714819323198485+x*11400714819323198485))=Jt0 h x:=rfl
theorem Qt2 (a:Int):Qh5 (IntKind.u64.wrap (IntKind.u64.wrap 11400714819323198490+IntKind.u64.wrap (a*11400714819323198485)))=Jt0 5 a:=by
 have h:=Vr1 5 a
 unfold Jt0
 rw [<-h];rfl
theorem Qt4 (a:Int):Qh5 (IntKind.u64.wrap (11400714819323198490+a*11400714819323198485))=Jt0 5 a:=by
 unfold Jt0;rfl
theorem Ve4 (x:Int)(k:Nat):xsU x k=(bits BinOp.xor .u64 x (x.fdiv (2 ^ min k IntKind.u64.bits))):=rfl
theorem Xn5 (x:Int)(m:Ja1):Ctr Tryz.prog 231 [.one (.int .u64 x)] m (.one (.int .u64 (Qh5 x))) m:=by
 refine Ctr.en Tryz.func231 [.tmp 2] 19 fun hwf Q hQ=>?_
 have hv:Qh5 x=xsU (IntKind.u64.wrap (xsU (IntKind.u64.wrap (xsU x 30*13787848793156543929)) 27*10723151780598845931)) 31:=rfl
 rw [hv] at hQ
 refine AW.c 6 @Ve4 Z0 ?_
 exact AW.ret (hQ _ _ _ (RetP.z hwf @Ve4))
theorem Vr0 (x:Int)(m:Ja1):Ctr Tryz.prog 239 [.one (.int .u64 x)] m (.one (.int .u64 (Qh5 x))) m:=by
 refine Ctr.en Tryz.func239 [.tmp 2] 19 fun hwf Q hQ=>?_
 have hv:Qh5 x=xsU (IntKind.u64.wrap (xsU (IntKind.u64.wrap (xsU x 30*13787848793156543929)) 27*10723151780598845931)) 31:=rfl
 rw [hv] at hQ
 refine AW.c 6 @Ve4 Z0 ?_
 exact AW.ret (hQ _ _ _ (RetP.z hwf @Ve4))
theorem Xo4 (a b c d e:Int)(r:Nat)(m:Ja1)(hb:∃ k ez v,m[r]?=some ⟨k,22,v,ez,[.int .u64 a,.int .u64 b,.int .u64 c,.int .u64 d,.int .u64 e]⟩/\v=0):Ctr Tryz.prog 188 [.one (.sl r 0 0 5)] m (.one (.int .u64 (Qc8 a b c d e))) m:=by
 refine Ctr.en Tryz.func188 [.tmp 2] 24 fun hwf Q hQ=>?_
 obtain ⟨k0,ez,v,hb,rfl⟩:=hb
 have lb:=Jb4 hb
 have hv:Qc8 a b c d e=Qh5 (Jt0 (Jt0 (Jt0 (Jt0 (Jt0 5 a) b) c) d) e):=rfl
 rw [hv] at hQ
 have w5:IntKind.u64.wrap 5=5:=rfl
 have U1:=ca4 hb (Ja8 hb) w5 (ca4 @Vr1 @Vr2 @Qt2 @Qt4)
 refine AW.c 2 U1 Z0 ?_
 refine AW.q fun K hK=>?_
 refine AW.c 1 U1 Z0 ?_
 apply AW.b
 refine AW.r 6 ?_
 iterate 5
  refine ARounds.s fun K hK=>?_
  refine AW.c 1 U1 Z0 ?_
  refine AW.ifT rfl ?_
  refine AW.q fun K hK=>?_
  apply AW.b
  refine AW.c 1 U1 Z0 ?_
  refine AW.g U1 Xn5 ?_
  apply Ja6
  apply hK;clear hK
  refine AW.g U1 Z0 ?_
  apply hK;clear hK
 refine ARounds.s fun K hK=>?_
 refine AW.c 1 U1 Z0 ?_
 refine AW.q fun K hK=>?_
 apply AW.x rfl
 apply AW.v
 apply Jb0
 clear hK
 apply Jb0
 clear hK
 apply Ja5
 apply hK;clear hK
 refine AW.c 1 U1 Xn5 ?_
 exact AW.ret (hQ _ _ _ (RetP.z hwf U1))
theorem Vx6 (a b c d e:Int)(r:Nat)(m:Ja1)(hb:∃ k ez v,m[r]?=some ⟨k,22,v,ez,[.int .u64 a,.int .u64 b,.int .u64 c,.int .u64 d,.int .u64 e]⟩/\v=0):Ctr Tryz.prog 199 [.one (.sl r 0 0 5)] m (.one (.int .u64 (Qc8 a b c d e))) m:=by
 refine Ctr.en Tryz.func199 [.tmp 2] 25 fun hwf Q hQ=>?_
 obtain ⟨k0,ez,v,hb,rfl⟩:=hb
 have lb:=Jb4 hb
 have hv:Qc8 a b c d e=Qh5 (Jt0 (Jt0 (Jt0 (Jt0 (Jt0 5 a) b) c) d) e):=rfl
 rw [hv] at hQ
 have w5:IntKind.u64.wrap 5=5:=rfl
 have U2:=ca4 hb (Ja8 hb) w5 (ca4 @Xi9 @Vr2 @Qt2 @Qt4)
 refine AW.c 2 U2 Z0 ?_
 refine AW.q fun K hK=>?_
 refine AW.c 1 U2 Z0 ?_
 apply AW.b
 refine AW.r 6 ?_
 iterate 5
  refine ARounds.s fun K hK=>?_
  refine AW.q fun K hK=>?_
  refine AW.c 1 U2 Z0 ?_
  apply AW.y rfl
  apply AW.z
  apply hK;clear hK
  refine AW.q fun K hK=>?_
  apply AW.b
  refine AW.g U2 Vr0 ?_
  apply Ja6
  apply hK;clear hK
  refine AW.g U2 Z0 ?_
  apply hK;clear hK
 refine ARounds.s fun K hK=>?_
 refine AW.q fun K hK=>?_
 refine AW.c 1 U2 Z0 ?_
 apply AW.x rfl
 apply AW.v
 apply Jb0
 clear hK
 apply Jb0
 clear hK
 apply Ja5
 apply hK;clear hK
 refine AW.c 1 U2 Vr0 ?_
 exact AW.ret (hQ _ _ _ (RetP.z hwf U2))
def Jm8 (sd a b c:Int):List CV:=[.int .u64 sd,.int .i64 a,.int .i64 b,.int .i64 c]
def Jv8 (sd a b c i:Int):Int:=Qc8 sd (IntKind.u64.wrap a) (IntKind.u64.wrap b) (IntKind.u64.wrap c) (IntKind.u64.wrap i)
theorem Kk8 (sd a b c:Int):Jm8 sd a b c=([.int .u64 sd,.int .i64 a,.int .i64 b,.int .i64 c]):=rfl
theorem Vt2 (sd a b c i:Int)(m:Ja1):Ctr Tryz.prog 112 [.agg (Jm8 sd a b c),.one (.int .i64 i)] m (.one (.int .u64 (Jv8 sd a b c i))) m:=by
 refine Ctr.en Tryz.func112 [.tmp 4] 20 fun hwf Q hQ=>?_
 have hv:Jv8 sd a b c i=Qc8 sd (IntKind.u64.wrap a) (IntKind.u64.wrap b) (IntKind.u64.wrap c) (IntKind.u64.wrap i):=rfl
 rw [hv] at hQ
 refine AW.sr 2 fun K hK=>?_
 simp only [push_cast,simprocAttr,Jm8]
 refine CThen.by (Xo4 sd (IntKind.u64.wrap a) (IntKind.u64.wrap b) (IntKind.u64.wrap c) (IntKind.u64.wrap i) _ _ ⟨.grow,1,0,by simp only [push_cast,simprocAttr],rfl⟩) ?_
 simp only [push_cast,simprocAttr,Jm8]
 apply hK;clear hK
 exact AW.ret (hQ _ _ _ (RetP.z hwf @Kk8))
theorem Qw6 (sd a b c i:Int)(m:Ja1):Ctr Tryz.prog 138 [.agg (Jm8 sd a b c),.one (.int .i64 i)] m (.one (.int .u64 (Jv8 sd a b c i))) m:=by
 refine Ctr.en Tryz.func138 [.tmp 4] 20 fun hwf Q hQ=>?_
 have hv:Jv8 sd a b c i=Qc8 sd (IntKind.u64.wrap a) (IntKind.u64.wrap b) (IntKind.u64.wrap c) (IntKind.u64.wrap i):=rfl
 rw [hv] at hQ
 refine AW.sr 2 fun K hK=>?_
 simp only [push_cast,simprocAttr,Jm8]
 refine CThen.by (Vx6 sd (IntKind.u64.wrap a) (IntKind.u64.wrap b) (IntKind.u64.wrap c) (IntKind.u64.wrap i) _ _ ⟨.grow,1,0,by simp only [push_cast,simprocAttr],rfl⟩) ?_
 simp only [push_cast,simprocAttr,Jm8]
 apply hK;clear hK
 exact AW.ret (hQ _ _ _ (RetP.z hwf @Kk8))
theorem mix_b (x:Int):0<=Qh5 x/\Qh5 x<18446744073709551616:=by
 unfold Qh5 xsU bits
 rw [IntKind.wrap_u64];omega
theorem Qk6 (sd a b c i:Int):0<=Jv8 sd a b c i/\Jv8 sd a b c i<18446744073709551616:=mix_b _
def Qd6 (sd a b c i:Int):Int:=Jv8 sd a b c i / 281474976710656
theorem Vb4 (sd a b c i:Int)(m:Ja1):Ctr Tryz.prog 47 [.agg (Jm8 sd a b c),.one (.int .i64 i)] m (.one (.int .i64 (Qd6 sd a b c i))) m:=by
 refine Ctr.en Tryz.func47 [.tmp 4] 10 fun hwf Q hQ=>?_
 obtain ⟨z,hz⟩:∃ z,Jv8 sd a b c i=z:=⟨_,rfl⟩
 have hb:=Qk6 sd a b c i
 rw [hz] at hb
 have hd:Qd6 sd a b c i=z / 281474976710656:=by unfold Qd6;rw [hz]
 rw [hd] at hQ
 have k1:z.fdiv (2 ^ min 48 IntKind.u64.bits)=z / 281474976710656:=Int.fdiv_eq_ediv_of_nonneg z (by decide)
 have k2:z.tdiv 281474976710656=z / 281474976710656:=Int.tdiv_eq_ediv_of_nonneg hb.1
 have k3:IntKind.u64.wrap (z / 281474976710656)=z / 281474976710656:=by rw [IntKind.wrap_u64];omega
 have k4:IntKind.i64.wrap (z / 281474976710656)=z / 281474976710656:=wi (by omega)
 have U1:=ca4 @Kk8 hz k1 (ca3 k2 k3 k4)
 refine AW.c 2 U1 (Vt2 sd a b c i) ?_
 exact AW.ret (hQ _ _ _ (RetP.z hwf U1))
theorem Qc4 (sd a b c i:Int)(m:Ja1):Ctr Tryz.prog 57 [.agg (Jm8 sd a b c),.one (.int .i64 i)] m (.one (.int .i64 (Qd6 sd a b c i))) m:=by
 refine Ctr.en Tryz.func57 [.tmp 4] 10 fun hwf Q hQ=>?_
 obtain ⟨z,hz⟩:∃ z,Jv8 sd a b c i=z:=⟨_,rfl⟩
 have hb:=Qk6 sd a b c i
 rw [hz] at hb
 have hd:Qd6 sd a b c i=z / 281474976710656:=by unfold Qd6;rw [hz]
 rw [hd] at hQ
 have k1:z.fdiv (2 ^ min 48 IntKind.u64.bits)=z / 281474976710656:=Int.fdiv_eq_ediv_of_nonneg z (by decide)
 have k2:z.tdiv 281474976710656=z / 281474976710656:=Int.tdiv_eq_ediv_of_nonneg hb.1
 have k3:IntKind.u64.wrap (z / 281474976710656)=z / 281474976710656:=by rw [IntKind.wrap_u64];omega
 have k4:IntKind.i64.wrap (z / 281474976710656)=z / 281474976710656:=wi (by omega)
 have U2:=ca4 @Kk8 hz k1 (ca3 k2 k3 k4)
 refine AW.c 2 U2 (Qw6 sd a b c i) ?_
 exact AW.ret (hQ _ _ _ (RetP.z hwf U2))
structure PixE (v:VW)(p:V)(Z A B X Y:Int):Prop where
 hZ:Jd8 (Je8 (Jb3 p v.e) v.f) v.wd=Z
 hA:Jd8 (Jh1 (Je8 (Jb3 p v.e) v.r) Z) (ofI v.h)=A
 hB:Jd8 (Jh1 (Je8 (Jb3 p v.e) v.u) Z) (ofI v.h)=B
 hX:Ja2 (Jh1 (Jd6 A (ofI v.w)) 131072) / 65536=X
 hY:Ja2 (Jh1 (Jf5 (ofI v.h) B) 131072) / 65536=Y
def Je2 (a b:V):V:=fun k=>Jd8 (a k) (b k)
def Jw9 (a:V)(n:Int):V:=fun k=>if n<1 then 0 else Jh1 (a k) (ofI n)
theorem Va3 (f:Int->Int->Int)(g:Nat)(a b:V)(m:Ja1)(hf:∀ p q L,Ctr Tryz.prog g [.one (.int .i64 p),.one (.int .i64 q)] (m++L) (.one (.int .i64 (f p q))) (m++L)):Ctr Tryz.prog 129 [.agg (c3C a),.agg (c3C b),.one (.fn g [])] m (.agg (c3C (fun k=>f (a k) (b k)))) m:=by
 refine Ctr.en Tryz.func129 [.cell 6 42] 26 fun hwf Q hQ=>?_
 refine AW.sr 1 fun K hK=>?_
 simp only [push_cast,simprocAttr,c3C,Jk9]
 apply hK;clear hK
 refine AW.q fun K hK=>?_
 refine AW.draw [.val,.val,.rd 0,.val,.rd 0,.ext,.val,.val,.rd 0,.val,.rd 0,.ext,.val,.val,.rd 0,.val,.rd 0,.ext,.val,.wr] fol (by decide) (by kernel_rfl) ?_
 iterate 3
  simp only [push_cast,simprocAttr,c3C,Jk9]
  refine DCall.z (hf _ _ _) ?_
 simp only [push_cast,simprocAttr,c3C,Jk9]
 apply hK;clear hK
 exact AW.ret (hQ _ _ _ (RetP.z hwf Z0))
theorem Qj0 (a b:V)(m:Ja1):Ctr Tryz.prog 51 [.agg (c3C a),.agg (c3C b)] m (.agg (c3C (Je0 a b))) m:=by
 refine Ctr.en Tryz.func51 [.cell 4 42] 8 fun hwf Q hQ=>?_
 refine AW.c 2 @Ja4 (Va3 Jd6 117 a b _ (fun p q L=>Jy7 p q _)) ?_
 exact AW.ret (hQ _ _ _ (RetP.z hwf Z0))
theorem Km2 (a b:V)(m:Ja1):Ctr Tryz.prog 52 [.agg (c3C a),.agg (c3C b)] m (.agg (c3C (Je2 a b))) m:=by
 refine Ctr.en Tryz.func52 [.cell 4 42] 8 fun hwf Q hQ=>?_
 refine AW.c 2 @Ja4 (Va3 Jd8 121 a b _ (fun p q L=>Jm2 p q _)) ?_
 exact AW.ret (hQ _ _ _ (RetP.z hwf Z0))
theorem Ku2 (x:Int)(m:Ja1):Ctr Tryz.prog 33 [.one (.int .i64 x)] m (.agg (c3C (fun _=>x))) m:=by
 refine Ctr.en Tryz.func33 [.cell 2 42] 7 fun hwf Q hQ=>?_
 refine AW.c 2 @Ja4 Z0 ?_
 exact AW.ret (hQ _ _ _ (RetP.z hwf Z0))
theorem Qi4 (a:V)(x:Int)(m:Ja1):Ctr Tryz.prog 133 [.agg (c3C a),.one (.int .i64 x)] m (.agg (c3C (Je1 a x))) m:=by
 refine Ctr.en Tryz.func133 [.cell 4 42] 9 fun hwf Q hQ=>?_
 refine AW.c 1 @Ja4 Z0 ?_
 refine AW.d [.rd 0,.val,.ext,.ext,.wr] fol @Ja4 (ca2 (Ku2 x) (Km2 a (fun _=>x))) ?_
 exact AW.ret (hQ _ _ _ (RetP.z hwf Z0))
theorem Xc7 (a:V)(n:Int)(m:Ja1)(g:n<1):Ctr Tryz.prog 66 [.agg (c3C a),.one (.int .i64 n)] m (.agg (c3C (Jw9 a n))) m:=by
 refine Ctr.en Tryz.func66 [.cell 4 42] 24 fun hwf Q hQ=>?_
 have hv:c3C (Jw9 a n)=[.int .i64 0,.int .i64 0,.int .i64 0]:=by unfold c3C Jw9;simp only [g,if_true]
 rw [hv] at hQ
 have U1:=ca2 @Ja4 g
 refine AW.c 1 U1 Z0 ?_
 refine AW.q fun K hK=>?_
 refine AW.c 1 U1 Z0 ?_
 apply AW.y rfl
 refine AW.c 1 U1 Z0 ?_
 exact AW.ret (hQ _ _ _ (RetP.z hwf Z0))
theorem Xc8 (a:V)(n:Int)(m:Ja1)(g:¬n<1):Ctr Tryz.prog 66 [.agg (c3C a),.one (.int .i64 n)] m (.agg (c3C (Jw9 a n))) m:=by
 refine Ctr.en Tryz.func66 [.cell 4 42] 24 fun hwf Q hQ=>?_
 have hv:c3C (Jw9 a n)=[.int .i64 (Jh1 (a 0) (ofI n)),.int .i64 (Jh1 (a 1) (ofI n)),.int .i64 (Jh1 (a 2) (ofI n))]:=by unfold c3C Jw9;simp only [g,if_false]
 rw [hv] at hQ
 have U3:=ca2 @Ja4 g
 refine AW.c 1 U3 Z0 ?_
 refine AW.q fun K hK=>?_
 refine AW.c 1 U3 Z0 ?_
 apply AW.x rfl
 apply AW.z
 apply hK;clear hK
 refine AW.c 1 U3 Xh4 ?_
 refine AW.d [.val,.rd 0,.val,.ext,.val,.rd 0,.val,.ext,.val,.rd 0,.val,.ext,.val,.wr] fol U3 Jq8 ?_
 exact AW.ret (hQ _ _ _ (RetP.z hwf Z0))
theorem Xc9 (a:V)(n:Int)(m:Ja1):Ctr Tryz.prog 66 [.agg (c3C a),.one (.int .i64 n)] m (.agg (c3C (Jw9 a n))) m:=by
 by_cases g:n<1
 ·exact Xc7 a n m g
 exact Xc8 a n m g
theorem Qc2 (a b:V)(m:Ja1):Ctr Tryz.prog 61 [.agg (c3C a),.agg (c3C b)] m (.agg (c3C (Je0 a b))) m:=by
 refine Ctr.en Tryz.func61 [.cell 4 24] 21 fun hwf Q hQ=>?_
 refine AW.c 2 @Ja4 Z0 ?_
 refine AW.q fun K hK=>?_
 refine AW.c 1 @Ja4 Z0 ?_
 apply AW.b
 refine AW.r 4 ?_
 refine ARounds.s fun K hK=>?_
 refine AW.q fun K hK=>?_
 refine AW.c 1 @Ja4 Z0 ?_
 apply AW.y rfl
 apply AW.z
 apply hK;clear hK
 refine AW.q fun K hK=>?_
 apply AW.b
 refine AW.e [.val,.val,.val,.rd 0,.val,.val,.rd 0,.ext,.val,.wr] fol @Ja4 Jp0 ?_
 apply Ja6
 apply hK;clear hK
 refine AW.g @Ja4 Z0 ?_
 apply hK;clear hK
 refine ARounds.s fun K hK=>?_
 refine AW.q fun K hK=>?_
 refine AW.c 1 @Ja4 Z0 ?_
 apply AW.y rfl
 apply AW.z
 apply hK;clear hK
 refine AW.q fun K hK=>?_
 apply AW.b
 refine AW.e [.val,.val,.val,.rd 0,.val,.val,.rd 0,.ext,.val,.wr] fol @Ja4 Jp0 ?_
 apply Ja6
 apply hK;clear hK
 refine AW.g @Ja4 Z0 ?_
 apply hK;clear hK
 refine ARounds.s fun K hK=>?_
 refine AW.q fun K hK=>?_
 refine AW.c 1 @Ja4 Z0 ?_
 apply AW.y rfl
 apply AW.z
 apply hK;clear hK
 refine AW.q fun K hK=>?_
 apply AW.b
 refine AW.e [.val,.val,.val,.rd 0,.val,.val,.rd 0,.ext,.val,.wr] fol @Ja4 Jp0 ?_
 apply Ja6
 apply hK;clear hK
 refine AW.g @Ja4 Z0 ?_
 apply hK;clear hK
 refine ARounds.s fun K hK=>?_
 refine AW.q fun K hK=>?_
 refine AW.c 1 @Ja4 Z0 ?_
 apply AW.x rfl
 apply AW.v
 apply Jb0
 clear hK
 apply Jb0
 clear hK
 apply Ja5
 apply hK;clear hK
 refine AW.c 1 @Ja4 Z0 ?_
 exact AW.ret (hQ _ _ _ (RetP.z hwf Z0))
theorem Jz5 (a b:V)(m:Ja1):Ctr Tryz.prog 62 [.agg (c3C a),.agg (c3C b)] m (.agg (c3C (Je2 a b))) m:=by
 refine Ctr.en Tryz.func62 [.cell 4 24] 21 fun hwf Q hQ=>?_
 refine AW.c 2 @Ja4 Z0 ?_
 refine AW.q fun K hK=>?_
 refine AW.c 1 @Ja4 Z0 ?_
 apply AW.b
 refine AW.r 4 ?_
 refine ARounds.s fun K hK=>?_
 refine AW.q fun K hK=>?_
 refine AW.c 1 @Ja4 Z0 ?_
 apply AW.y rfl
 apply AW.z
 apply hK;clear hK
 refine AW.q fun K hK=>?_
 apply AW.b
 refine AW.e [.val,.val,.val,.rd 0,.val,.val,.rd 0,.ext,.val,.wr] fol @Ja4 Jg3 ?_
 apply Ja6
 apply hK;clear hK
 refine AW.g @Ja4 Z0 ?_
 apply hK;clear hK
 refine ARounds.s fun K hK=>?_
 refine AW.q fun K hK=>?_
 refine AW.c 1 @Ja4 Z0 ?_
 apply AW.y rfl
 apply AW.z
 apply hK;clear hK
 refine AW.q fun K hK=>?_
 apply AW.b
 refine AW.e [.val,.val,.val,.rd 0,.val,.val,.rd 0,.ext,.val,.wr] fol @Ja4 Jg3 ?_
 apply Ja6
 apply hK;clear hK
 refine AW.g @Ja4 Z0 ?_
 apply hK;clear hK
 refine ARounds.s fun K hK=>?_
 refine AW.q fun K hK=>?_
 refine AW.c 1 @Ja4 Z0 ?_
 apply AW.y rfl
 apply AW.z
 apply hK;clear hK
 refine AW.q fun K hK=>?_
 apply AW.b
 refine AW.e [.val,.val,.val,.rd 0,.val,.val,.rd 0,.ext,.val,.wr] fol @Ja4 Jg3 ?_
 apply Ja6
 apply hK;clear hK
 refine AW.g @Ja4 Z0 ?_
 apply hK;clear hK
 refine ARounds.s fun K hK=>?_
 refine AW.q fun K hK=>?_
 refine AW.c 1 @Ja4 Z0 ?_
 apply AW.x rfl
 apply AW.v
 apply Jb0
 clear hK
 apply Jb0
 clear hK
 apply Ja5
 apply hK;clear hK
 refine AW.c 1 @Ja4 Z0 ?_
 exact AW.ret (hQ _ _ _ (RetP.z hwf Z0))
theorem Kx2 (a:V)(x:Int)(m:Ja1):Ctr Tryz.prog 152 [.agg (c3C a),.one (.int .i64 x)] m (.agg (c3C (Je1 a x))) m:=by
 refine Ctr.en Tryz.func152 [.cell 4 24] 11 fun hwf Q hQ=>?_
 refine AW.c 2 @Ja4 (Jz5 a (fun _=>x)) ?_
 exact AW.ret (hQ _ _ _ (RetP.z hwf Z0))
noncomputable def Jr0 (p n q:V):Int:=if Je8 (Jb7 (Jb3 q p)) n<=0 then 0 else Jh1 (Je8 (Jb7 (Jb3 q p)) n) (Jd6 65536 (Jd8 (Ka7 (Jb3 q p)) (Ka7 (Jb3 q p))))
theorem Vz0 (p n q:V)(m:Ja1)(g:Je8 (Jb7 (Jb3 q p)) n<=0):Ctr Tryz.prog 132 [.agg (c3C p),.agg (c3C n),.agg (c3C q)] m (.tup [(true,c3C (Jb7 (Jb3 q p))),(false,[.int .i64 (Ka7 (Jb3 q p))]),(false,[.int .i64 (Jr0 p n q)])]) m:=by
 refine Ctr.en Tryz.func132 [.cell 6 59,.tmp 7,.tmp 8] 35 fun hwf Q hQ=>?_
 have hv:Jr0 p n q=0:=if_pos g
 rw [hv] at hQ
 have U1:=ca2 @Ja4 g
 refine AW.c 5 U1 (ca4 (Jk0 q p) (Vk2 (Jb3 q p)) (Jq9 (Jb3 q p)) (Jg4 (Jb7 (Jb3 q p)) n)) ?_
 refine AW.q fun K hK=>?_
 refine AW.c 1 U1 Z0 ?_
 apply AW.y rfl
 refine AW.c 1 U1 Z0 ?_
 exact AW.ret (hQ _ _ _ (RetP.z hwf Z0))
theorem Vh3 (p n q:V)(m:Ja1)(g:Je8 (Jb7 (Jb3 q p)) n<=0):Ctr Tryz.prog 151 [.agg (c3C p),.agg (c3C n),.agg (c3C q)] m (.tup [(true,c3C (Jb7 (Jb3 q p))),(false,[.int .i64 (Ka7 (Jb3 q p))]),(false,[.int .i64 (Jr0 p n q)])]) m:=by
 refine Ctr.en Tryz.func151 [.cell 6 54,.tmp 7,.tmp 8] 35 fun hwf Q hQ=>?_
 have hv:Jr0 p n q=0:=if_pos g
 rw [hv] at hQ
 have U2:=ca2 @Ja4 g
 refine AW.c 5 U2 (ca4 (Jg1 q p) (Qg5 (Jb3 q p)) (Jm5 (Jb3 q p)) (Je3 (Jb7 (Jb3 q p)) n)) ?_
 refine AW.q fun K hK=>?_
 refine AW.c 1 U2 Z0 ?_
 apply AW.y rfl
 refine AW.c 1 U2 Z0 ?_
 exact AW.ret (hQ _ _ _ (RetP.z hwf Z0))
theorem Vz1 (p n q:V)(m:Ja1)(g:¬Je8 (Jb7 (Jb3 q p)) n<=0):Ctr Tryz.prog 132 [.agg (c3C p),.agg (c3C n),.agg (c3C q)] m (.tup [(true,c3C (Jb7 (Jb3 q p))),(false,[.int .i64 (Ka7 (Jb3 q p))]),(false,[.int .i64 (Jr0 p n q)])]) m:=by
 refine Ctr.en Tryz.func132 [.cell 6 59,.tmp 7,.tmp 8] 35 fun hwf Q hQ=>?_
 have hv:Jr0 p n q=Jh1 (Je8 (Jb7 (Jb3 q p)) n) (Jd6 65536 (Jd8 (Ka7 (Jb3 q p)) (Ka7 (Jb3 q p)))):=if_neg g
 rw [hv] at hQ
 have U3:=ca2 @Ja4 g
 refine AW.c 5 U3 (ca4 (Jk0 q p) (Vk2 (Jb3 q p)) (Jq9 (Jb3 q p)) (Jg4 (Jb7 (Jb3 q p)) n)) ?_
 refine AW.q fun K hK=>?_
 refine AW.c 1 U3 Z0 ?_
 apply AW.x rfl
 apply AW.z
 apply hK;clear hK
 refine AW.d [.rd 0,.val,.val,.val,.val,.ext,.ext,.ext,.wr,.val,.val] fol U3 (ca3 Jm2 Jy7 Jq8) ?_
 exact AW.ret (hQ _ _ _ (RetP.z hwf Z0))
theorem Vh4 (p n q:V)(m:Ja1)(g:¬Je8 (Jb7 (Jb3 q p)) n<=0):Ctr Tryz.prog 151 [.agg (c3C p),.agg (c3C n),.agg (c3C q)] m (.tup [(true,c3C (Jb7 (Jb3 q p))),(false,[.int .i64 (Ka7 (Jb3 q p))]),(false,[.int .i64 (Jr0 p n q)])]) m:=by
 refine Ctr.en Tryz.func151 [.cell 6 54,.tmp 7,.tmp 8] 35 fun hwf Q hQ=>?_
 have hv:Jr0 p n q=Jh1 (Je8 (Jb7 (Jb3 q p)) n) (Jd6 65536 (Jd8 (Ka7 (Jb3 q p)) (Ka7 (Jb3 q p)))):=if_neg g
 rw [hv] at hQ
 have U4:=ca2 @Ja4 g
 refine AW.c 5 U4 (ca4 (Jg1 q p) (Qg5 (Jb3 q p)) (Jm5 (Jb3 q p)) (Je3 (Jb7 (Jb3 q p)) n)) ?_
 refine AW.q fun K hK=>?_
 refine AW.c 1 U4 Z0 ?_
 apply AW.x rfl
 apply AW.z
 apply hK;clear hK
 refine AW.d [.rd 0,.val,.val,.val,.val,.ext,.ext,.ext,.wr,.val,.val] fol U4 (ca3 Jg3 Jp0 Ji3) ?_
 exact AW.ret (hQ _ _ _ (RetP.z hwf Z0))
theorem Vz2 (p n q:V)(m:Ja1):Ctr Tryz.prog 132 [.agg (c3C p),.agg (c3C n),.agg (c3C q)] m (.tup [(true,c3C (Jb7 (Jb3 q p))),(false,[.int .i64 (Ka7 (Jb3 q p))]),(false,[.int .i64 (Jr0 p n q)])]) m:=by
 by_cases g:Je8 (Jb7 (Jb3 q p)) n<=0
 ·exact Vz0 p n q m g
 exact Vz1 p n q m g
theorem Vh5 (p n q:V)(m:Ja1):Ctr Tryz.prog 151 [.agg (c3C p),.agg (c3C n),.agg (c3C q)] m (.tup [(true,c3C (Jb7 (Jb3 q p))),(false,[.int .i64 (Ka7 (Jb3 q p))]),(false,[.int .i64 (Jr0 p n q)])]) m:=by
 by_cases g:Je8 (Jb7 (Jb3 q p)) n<=0
 ·exact Vh3 p n q m g
 exact Vh4 p n q m g
def Jo3 (sd a b c i n:Int):Int:=if n<1 then 0 else Jv8 sd a b c i / 2%n
theorem Xf6 (sd a b c i n:Int)(m:Ja1)(g:n<1):Ctr Tryz.prog 130 [.agg (Jm8 sd a b c),.one (.int .i64 i),.one (.int .i64 n)] m (.one (.int .i64 (Jo3 sd a b c i n))) m:=by
 refine Ctr.en Tryz.func130 [.tmp 6] 17 fun hwf Q hQ=>?_
 have hv:Jo3 sd a b c i n=0:=if_pos g
 rw [hv] at hQ
 refine AW.c 1 g Z0 ?_
 refine AW.q fun K hK=>?_
 refine AW.c 1 g Z0 ?_
 apply AW.y rfl
 refine AW.c 1 g Z0 ?_
 exact AW.ret (hQ _ _ _ (RetP.z hwf g))
theorem Xf7 (sd a b c i n:Int)(m:Ja1)(g:¬n<1)(hn:n<=1000000000):Ctr Tryz.prog 130 [.agg (Jm8 sd a b c),.one (.int .i64 i),.one (.int .i64 n)] m (.one (.int .i64 (Jo3 sd a b c i n))) m:=by
 refine Ctr.en Tryz.func130 [.tmp 6] 17 fun hwf Q hQ=>?_
 obtain ⟨z,hz⟩:∃ z,Jv8 sd a b c i=z:=⟨_,rfl⟩
 have hb:=Qk6 sd a b c i
 rw [hz] at hb
 have hv:Jo3 sd a b c i n=z / 2%n:=by unfold Jo3;rw [if_neg g,hz]
 rw [hv] at hQ
 have m1:=Int.emod_nonneg (z / 2) (show n≠0 by omega)
 have m2:=Int.emod_lt_of_pos (z / 2) (show 0<n by omega)
 have k1:z.fdiv (2 ^ min 1 IntKind.u64.bits)=z / 2:=Int.fdiv_eq_ediv_of_nonneg z (by decide)
 have k2:z.tdiv 2=z / 2:=Int.tdiv_eq_ediv_of_nonneg hb.1
 have k3:IntKind.u64.wrap (z / 2)=z / 2:=by rw [IntKind.wrap_u64];omega
 have k4:IntKind.u64.wrap n=n:=by rw [IntKind.wrap_u64];omega
 have k5:(z / 2).tmod n=z / 2%n:=Int.tmod_eq_emod_of_nonneg (by omega)
 have k6:IntKind.u64.wrap (z / 2%n)=z / 2%n:=by rw [IntKind.wrap_u64];omega
 have k7:IntKind.i64.wrap (z / 2%n)=z / 2%n:=wi (by omega)
 have k8:¬n=0:=by omega
 have k9:(n ==0)=false:=by simp;omega
 have U1:=ca4 @Kk8 g hz (ca4 k1 k2 k3 (ca4 k4 k5 k6 (ca3 k7 k8 k9)))
 refine AW.c 1 U1 Z0 ?_
 refine AW.q fun K hK=>?_
 refine AW.c 1 U1 Z0 ?_
 apply AW.x rfl
 apply AW.z
 apply hK;clear hK
 refine AW.c 1 U1 (Vt2 sd a b c i) ?_
 exact AW.ret (hQ _ _ _ (RetP.z hwf U1))
theorem Xf8 (sd a b c i n:Int)(m:Ja1)(hn:n<=1000000000):Ctr Tryz.prog 130 [.agg (Jm8 sd a b c),.one (.int .i64 i),.one (.int .i64 n)] m (.one (.int .i64 (Jo3 sd a b c i n))) m:=by
 by_cases g:n<1
 ·exact Xf6 sd a b c i n m g
 exact Xf7 sd a b c i n m g hn
theorem Vh9 (sd a b c i n:Int)(m:Ja1)(g:n<1):Ctr Tryz.prog 149 [.agg (Jm8 sd a b c),.one (.int .i64 i),.one (.int .i64 n)] m (.one (.int .i64 (Jo3 sd a b c i n))) m:=by
 refine Ctr.en Tryz.func149 [.tmp 6] 17 fun hwf Q hQ=>?_
 have hv:Jo3 sd a b c i n=0:=if_pos g
 rw [hv] at hQ
 refine AW.c 1 g Z0 ?_
 refine AW.q fun K hK=>?_
 refine AW.c 1 g Z0 ?_
 apply AW.y rfl
 refine AW.c 1 g Z0 ?_
 exact AW.ret (hQ _ _ _ (RetP.z hwf g))
theorem Vi0 (sd a b c i n:Int)(m:Ja1)(g:¬n<1)(hn:n<=1000000000):Ctr Tryz.prog 149 [.agg (Jm8 sd a b c),.one (.int .i64 i),.one (.int .i64 n)] m (.one (.int .i64 (Jo3 sd a b c i n))) m:=by
 refine Ctr.en Tryz.func149 [.tmp 6] 17 fun hwf Q hQ=>?_
 obtain ⟨z,hz⟩:∃ z,Jv8 sd a b c i=z:=⟨_,rfl⟩
 have hb:=Qk6 sd a b c i
 rw [hz] at hb
 have hv:Jo3 sd a b c i n=z / 2%n:=by unfold Jo3;rw [if_neg g,hz]
 rw [hv] at hQ
 have m1:=Int.emod_nonneg (z / 2) (show n≠0 by omega)
 have m2:=Int.emod_lt_of_pos (z / 2) (show 0<n by omega)
 have k1:z.fdiv (2 ^ min 1 IntKind.u64.bits)=z / 2:=Int.fdiv_eq_ediv_of_nonneg z (by decide)
 have k2:z.tdiv 2=z / 2:=Int.tdiv_eq_ediv_of_nonneg hb.1
 have k3:IntKind.u64.wrap (z / 2)=z / 2:=by rw [IntKind.wrap_u64];omega
 have k4:IntKind.u64.wrap n=n:=by rw [IntKind.wrap_u64];omega
 have k5:(z / 2).tmod n=z / 2%n:=Int.tmod_eq_emod_of_nonneg (by omega)
 have k6:IntKind.u64.wrap (z / 2%n)=z / 2%n:=by rw [IntKind.wrap_u64];omega
 have k7:IntKind.i64.wrap (z / 2%n)=z / 2%n:=wi (by omega)
 have k8:¬n=0:=by omega
 have k9:(n ==0)=false:=by simp;omega
 have U2:=ca4 @Kk8 g hz (ca4 k1 k2 k3 (ca4 k4 k5 k6 (ca3 k7 k8 k9)))
 refine AW.c 1 U2 Z0 ?_
 refine AW.q fun K hK=>?_
 refine AW.c 1 U2 Z0 ?_
 apply AW.x rfl
 apply AW.z
 apply hK;clear hK
 refine AW.c 1 U2 (Qw6 sd a b c i) ?_
 exact AW.ret (hQ _ _ _ (RetP.z hwf U2))
theorem Vi1 (sd a b c i n:Int)(m:Ja1)(hn:n<=1000000000):Ctr Tryz.prog 149 [.agg (Jm8 sd a b c),.one (.int .i64 i),.one (.int .i64 n)] m (.one (.int .i64 (Jo3 sd a b c i n))) m:=by
 by_cases g:n<1
 ·exact Vh9 sd a b c i n m g
 exact Vi0 sd a b c i n m g hn
def Kt6 (a:V):Int:=maxI 16384 (Jb9 (maxI (maxI (a 0) (a 1)) (a 2)))
def Jn1 (a:V)(u:Int):V:=fun k=>if Kt6 a<=Jb9 u then 0 else Jh1 (a k) (Kt6 a)
theorem Xc1 (a:V)(u:Int)(m:Ja1)(g:Kt6 a<=Jb9 u):Ctr Tryz.prog 56 [.agg (c3C a),.one (.int .i64 u)] m (.tup [(true,c3C (Jn1 a u)),(false,[.bool false])]) m:=by
 refine Ctr.en Tryz.func56 [.cell 4 42,.tmp 5] 36 fun hwf Q hQ=>?_
 obtain ⟨x,hx⟩:∃ x,maxI (maxI (a 0) (a 1)) (a 2)=x:=⟨_,rfl⟩
 obtain ⟨z,hz⟩:∃ z,Kt6 a=z:=⟨_,rfl⟩
 have hz1:maxI 16384 (Jb9 x)=z:=by rw [<-hz,<-hx];rfl
 rw [hz] at g
 have hv:c3C (Jn1 a u)=[.int .i64 0,.int .i64 0,.int .i64 0]:=by unfold c3C Jn1;rw [hz];simp only [g,if_true]
 rw [hv] at hQ
 have U1:=ca4 @Ja4 hx hz1 g
 refine AW.c 3 U1 Jy8 ?_
 refine AW.q fun K hK=>?_
 refine AW.c 1 U1 Jy8 ?_
 apply AW.y rfl
 refine AW.c 1 U1 Z0 ?_
 exact AW.ret (hQ _ _ _ (RetP.z hwf Z0))
theorem Xc2 (a:V)(u:Int)(m:Ja1)(g:¬Kt6 a<=Jb9 u):Ctr Tryz.prog 56 [.agg (c3C a),.one (.int .i64 u)] m (.tup [(true,c3C (Jn1 a u)),(false,[.bool true])]) m:=by
 refine Ctr.en Tryz.func56 [.cell 4 42,.tmp 5] 36 fun hwf Q hQ=>?_
 obtain ⟨x,hx⟩:∃ x,maxI (maxI (a 0) (a 1)) (a 2)=x:=⟨_,rfl⟩
 obtain ⟨z,hz⟩:∃ z,Kt6 a=z:=⟨_,rfl⟩
 have hz1:maxI 16384 (Jb9 x)=z:=by rw [<-hz,<-hx];rfl
 rw [hz] at g
 have hv:c3C (Jn1 a u)=[.int .i64 (Jh1 (a 0) z),.int .i64 (Jh1 (a 1) z),.int .i64 (Jh1 (a 2) z)]:=by unfold c3C Jn1;rw [hz];simp only [g,if_false]
 rw [hv] at hQ
 have U2:=ca4 @Ja4 hx hz1 g
 refine AW.c 3 U2 Jy8 ?_
 refine AW.q fun K hK=>?_
 refine AW.c 1 U2 Jy8 ?_
 apply AW.x rfl
 apply AW.z
 apply hK;clear hK
 refine AW.d [.val,.rd 0,.val,.ext,.val,.rd 0,.val,.ext,.val,.rd 0,.val,.ext,.val,.wr,.val] fol U2 Jq8 ?_
 exact AW.ret (hQ _ _ _ (RetP.z hwf Z0))
theorem Vh6 (a:V)(u:Int)(m:Ja1)(g:Kt6 a<=Jb9 u):Ctr Tryz.prog 65 [.agg (c3C a),.one (.int .i64 u)] m (.tup [(true,c3C (Jn1 a u)),(false,[.bool false])]) m:=by
 refine Ctr.en Tryz.func65 [.cell 4 24,.tmp 5] 46 fun hwf Q hQ=>?_
 obtain ⟨x,hx⟩:∃ x,maxI (maxI (a 0) (a 1)) (a 2)=x:=⟨_,rfl⟩
 obtain ⟨z,hz⟩:∃ z,Kt6 a=z:=⟨_,rfl⟩
 have hz1:maxI 16384 (Jb9 x)=z:=by rw [<-hz,<-hx];rfl
 rw [hz] at g
 have hv:c3C (Jn1 a u)=[.int .i64 0,.int .i64 0,.int .i64 0]:=by unfold c3C Jn1;rw [hz];simp only [g,if_true]
 rw [hv] at hQ
 have U3:=ca3 @Ja4 hx g
 refine AW.c 2 U3 Z0 ?_
 refine AW.q fun K hK=>?_
 refine AW.c 1 U3 Z0 ?_
 apply AW.b
 refine AW.r 3 ?_
 refine ARounds.s fun K hK=>?_
 refine AW.q fun K hK=>?_
 refine AW.c 1 U3 Z0 ?_
 apply AW.y rfl
 apply AW.z
 apply hK;clear hK
 refine AW.q fun K hK=>?_
 apply AW.b
 refine AW.c 1 U3 Z0 ?_
 refine AW.condJ rfl [1,2,4,7] [(6,.one (.int .i64 (maxI (a 0) (a 1))))] [] (fun h21=>?_) (fun h21=>?_) ?_
 ·have hmn:maxI (a 0) (a 1)=(a 1):=if_pos (of_decide_eq_true h21)
  refine AW.g U3 Z0 ?_
  apply Jc1
  try simp only [Jb2,Ja3,push_cast,simprocAttr,U3,hmn]
  exact Weak.same (by simp only [KS,simprocAttr,hmn]) (by first|rfl|simp only [KS,simprocAttr,hmn])
 ·have hmn:maxI (a 0) (a 1)=(a 0):=if_neg (of_decide_eq_false h21)
  apply AW.z
  apply Jc1
  try simp only [Jb2,Ja3,push_cast,simprocAttr,U3,hmn]
  exact Weak.same (by simp only [KS,simprocAttr,hmn]) (by first|rfl|simp only [KS,simprocAttr,hmn])
 try simp only [Jb2,Ja3,push_cast,simprocAttr,U3]
 apply Ja6
 apply hK;clear hK
 refine AW.g U3 Z0 ?_
 apply hK;clear hK
 refine ARounds.s fun K hK=>?_
 refine AW.q fun K hK=>?_
 refine AW.c 1 U3 Z0 ?_
 apply AW.y rfl
 apply AW.z
 apply hK;clear hK
 refine AW.q fun K hK=>?_
 apply AW.b
 refine AW.c 1 U3 Z0 ?_
 refine AW.condJ rfl [1,2,4,7] [(6,.one (.int .i64 x))] [] (fun h21=>?_) (fun h21=>?_) ?_
 ·have hmn:x=(a 2):=by rw [<-hx];exact if_pos (of_decide_eq_true h21)
  refine AW.g U3 Z0 ?_
  apply Jc1
  try simp only [Jb2,Ja3,push_cast,simprocAttr,U3,hmn]
  exact Weak.same (by simp only [KS,simprocAttr,hmn]) (by first|rfl|simp only [KS,simprocAttr,hmn])
 ·have hmn:x=maxI (a 0) (a 1):=by rw [<-hx];exact if_neg (of_decide_eq_false h21)
  apply AW.z
  apply Jc1
  try simp only [Jb2,Ja3,push_cast,simprocAttr,U3,hmn]
  exact Weak.same (by simp only [KS,simprocAttr,hmn]) (by first|rfl|simp only [KS,simprocAttr,hmn])
 try simp only [Jb2,Ja3,push_cast,simprocAttr,U3]
 apply Ja6
 apply hK;clear hK
 refine AW.g U3 Z0 ?_
 apply hK;clear hK
 refine ARounds.s fun K hK=>?_
 refine AW.q fun K hK=>?_
 refine AW.c 1 U3 Z0 ?_
 apply AW.x rfl
 apply AW.v
 apply Jb0
 clear hK
 apply Jb0
 clear hK
 apply Ja5
 apply hK;clear hK
 refine AW.c 1 U3 Jr9 ?_
 refine AW.q fun K hK=>?_
 refine AW.c 1 U3 Z0 ?_
 refine AW.condJ rfl [1,2,4] [(8,.one (.int .i64 z))] [] (fun h28=>?_) (fun h28=>?_) ?_
 ·have hmn:z=16384:=by rw [<-hz1];have:=of_decide_eq_true h28;exact if_neg (by omega)
  refine AW.g U3 Z0 ?_
  apply Jc1
  try simp only [Jb2,Ja3,push_cast,simprocAttr,U3,hmn,hx]
  exact Weak.same (by simp only [KS,simprocAttr,hmn,hx]) (by first|rfl|simp only [KS,simprocAttr,hmn,hx])
 ·have hmn:z=Jb9 x:=by rw [<-hz1];have:=of_decide_eq_false h28;unfold maxI;split<;>omega
  apply AW.z
  apply Jc1
  try simp only [Jb2,Ja3,push_cast,simprocAttr,U3,hmn,hx]
  exact Weak.same (by simp only [KS,simprocAttr,hmn,hx]) (by first|rfl|simp only [KS,simprocAttr,hmn,hx])
 try simp only [Jb2,Ja3,push_cast,simprocAttr,U3]
 apply hK;clear hK
 refine AW.q fun K hK=>?_
 refine AW.c 1 U3 Jr9 ?_
 apply AW.y rfl
 refine AW.c 1 U3 Z0 ?_
 exact AW.ret (hQ _ _ _ (RetP.z hwf Z0))
theorem Vh7 (a:V)(u:Int)(m:Ja1)(g:¬Kt6 a<=Jb9 u):Ctr Tryz.prog 65 [.agg (c3C a),.one (.int .i64 u)] m (.tup [(true,c3C (Jn1 a u)),(false,[.bool true])]) m:=by
 refine Ctr.en Tryz.func65 [.cell 4 24,.tmp 5] 46 fun hwf Q hQ=>?_
 obtain ⟨x,hx⟩:∃ x,maxI (maxI (a 0) (a 1)) (a 2)=x:=⟨_,rfl⟩
 obtain ⟨z,hz⟩:∃ z,Kt6 a=z:=⟨_,rfl⟩
 have hz1:maxI 16384 (Jb9 x)=z:=by rw [<-hz,<-hx];rfl
 rw [hz] at g
 have hv:c3C (Jn1 a u)=[.int .i64 (Jh1 (a 0) z),.int .i64 (Jh1 (a 1) z),.int .i64 (Jh1 (a 2) z)]:=by unfold c3C Jn1;rw [hz];simp only [g,if_false]
 rw [hv] at hQ
 have U4:=ca3 @Ja4 hx g
 refine AW.c 2 U4 Z0 ?_
 refine AW.q fun K hK=>?_
 refine AW.c 1 U4 Z0 ?_
 apply AW.b
 refine AW.r 3 ?_
 refine ARounds.s fun K hK=>?_
 refine AW.q fun K hK=>?_
 refine AW.c 1 U4 Z0 ?_
 apply AW.y rfl
 apply AW.z
 apply hK;clear hK
 refine AW.q fun K hK=>?_
 apply AW.b
 refine AW.c 1 U4 Z0 ?_
 refine AW.condJ rfl [1,2,4,7] [(6,.one (.int .i64 (maxI (a 0) (a 1))))] [] (fun h21=>?_) (fun h21=>?_) ?_
 ·have hmn:maxI (a 0) (a 1)=(a 1):=if_pos (of_decide_eq_true h21)
  refine AW.g U4 Z0 ?_
  apply Jc1
  try simp only [Jb2,Ja3,push_cast,simprocAttr,U4,hmn]
  exact Weak.same (by simp only [KS,simprocAttr,hmn]) (by first|rfl|simp only [KS,simprocAttr,hmn])
 ·have hmn:maxI (a 0) (a 1)=(a 0):=if_neg (of_decide_eq_false h21)
  apply AW.z
  apply Jc1
  try simp only [Jb2,Ja3,push_cast,simprocAttr,U4,hmn]
  exact Weak.same (by simp only [KS,simprocAttr,hmn]) (by first|rfl|simp only [KS,simprocAttr,hmn])
 try simp only [Jb2,Ja3,push_cast,simprocAttr,U4]
 apply Ja6
 apply hK;clear hK
 refine AW.g U4 Z0 ?_
 apply hK;clear hK
 refine ARounds.s fun K hK=>?_
 refine AW.q fun K hK=>?_
 refine AW.c 1 U4 Z0 ?_
 apply AW.y rfl
 apply AW.z
 apply hK;clear hK
 refine AW.q fun K hK=>?_
 apply AW.b
 refine AW.c 1 U4 Z0 ?_
 refine AW.condJ rfl [1,2,4,7] [(6,.one (.int .i64 x))] [] (fun h21=>?_) (fun h21=>?_) ?_
 ·have hmn:x=(a 2):=by rw [<-hx];exact if_pos (of_decide_eq_true h21)
  refine AW.g U4 Z0 ?_
  apply Jc1
  try simp only [Jb2,Ja3,push_cast,simprocAttr,U4,hmn]
  exact Weak.same (by simp only [KS,simprocAttr,hmn]) (by first|rfl|simp only [KS,simprocAttr,hmn])
 ·have hmn:x=maxI (a 0) (a 1):=by rw [<-hx];exact if_neg (of_decide_eq_false h21)
  apply AW.z
  apply Jc1
  try simp only [Jb2,Ja3,push_cast,simprocAttr,U4,hmn]
  exact Weak.same (by simp only [KS,simprocAttr,hmn]) (by first|rfl|simp only [KS,simprocAttr,hmn])
 try simp only [Jb2,Ja3,push_cast,simprocAttr,U4]
 apply Ja6
 apply hK;clear hK
 refine AW.g U4 Z0 ?_
 apply hK;clear hK
 refine ARounds.s fun K hK=>?_
 refine AW.q fun K hK=>?_
 refine AW.c 1 U4 Z0 ?_
 apply AW.x rfl
 apply AW.v
 apply Jb0
 clear hK
 apply Jb0
 clear hK
 apply Ja5
 apply hK;clear hK
 refine AW.c 1 U4 Jr9 ?_
 refine AW.q fun K hK=>?_
 refine AW.c 1 U4 Z0 ?_
 refine AW.condJ rfl [1,2,4] [(8,.one (.int .i64 z))] [] (fun h28=>?_) (fun h28=>?_) ?_
 ·have hmn:z=16384:=by rw [<-hz1];have:=of_decide_eq_true h28;exact if_neg (by omega)
  refine AW.g U4 Z0 ?_
  apply Jc1
  try simp only [Jb2,Ja3,push_cast,simprocAttr,U4,hmn,hx]
  exact Weak.same (by simp only [KS,simprocAttr,hmn,hx]) (by first|rfl|simp only [KS,simprocAttr,hmn,hx])
 ·have hmn:z=Jb9 x:=by rw [<-hz1];have:=of_decide_eq_false h28;unfold maxI;split<;>omega
  apply AW.z
  apply Jc1
  try simp only [Jb2,Ja3,push_cast,simprocAttr,U4,hmn,hx]
  exact Weak.same (by simp only [KS,simprocAttr,hmn,hx]) (by first|rfl|simp only [KS,simprocAttr,hmn,hx])
 try simp only [Jb2,Ja3,push_cast,simprocAttr,U4]
 apply hK;clear hK
 refine AW.q fun K hK=>?_
 refine AW.c 1 U4 Jr9 ?_
 apply AW.x rfl
 apply AW.z
 apply hK;clear hK
 refine AW.c 1 U4 Z0 ?_
 refine AW.q fun K hK=>?_
 refine AW.c 1 U4 Z0 ?_
 apply AW.b
 refine AW.r 4 ?_
 refine ARounds.s fun K hK=>?_
 refine AW.q fun K hK=>?_
 refine AW.c 1 U4 Z0 ?_
 apply AW.y rfl
 apply AW.z
 apply hK;clear hK
 refine AW.q fun K hK=>?_
 apply AW.b
 refine AW.g U4 Ji3 ?_
 apply Ja6
 apply hK;clear hK
 refine AW.g U4 Z0 ?_
 apply hK;clear hK
 refine ARounds.s fun K hK=>?_
 refine AW.q fun K hK=>?_
 refine AW.c 1 U4 Z0 ?_
 apply AW.y rfl
 apply AW.z
 apply hK;clear hK
 refine AW.q fun K hK=>?_
 apply AW.b
 refine AW.g U4 Ji3 ?_
 apply Ja6
 apply hK;clear hK
 refine AW.g U4 Z0 ?_
 apply hK;clear hK
 refine ARounds.s fun K hK=>?_
 refine AW.q fun K hK=>?_
 refine AW.c 1 U4 Z0 ?_
 apply AW.y rfl
 apply AW.z
 apply hK;clear hK
 refine AW.q fun K hK=>?_
 apply AW.b
 refine AW.g U4 Ji3 ?_
 apply Ja6
 apply hK;clear hK
 refine AW.g U4 Z0 ?_
 apply hK;clear hK
 refine ARounds.s fun K hK=>?_
 refine AW.q fun K hK=>?_
 refine AW.c 1 U4 Z0 ?_
 apply AW.x rfl
 apply AW.v
 apply Jb0
 clear hK
 apply Jb0
 clear hK
 apply Ja5
 apply hK;clear hK
 refine AW.c 1 U4 Z0 ?_
 exact AW.ret (hQ _ _ _ (RetP.z hwf Z0))
theorem Fit.size2 {N:Nat->ND}{C:Nat->Nat->Prop}{t:TR}{a b:Nat}(h:Fit N C t a b):t.size+1<=2*(b - a):=by
 induction h with
 | leaf _ _ _ h=>show 1+1<=_;omega
 | node _ l r _ _ _ _ _ _ fl fr _ h1 h2 =>
  have:=fl.lt
  have:=fr.lt
  show l.size+r.size+1+1<=_
  omega
theorem Qt1:∀ l:List (TR × Nat × Nat),l.length<=Jz1 l
 | []=>Nat.le_refl _
 | e::l=>by
  have:=Qt1 l
  have:=Kb3 e.1
  show l.length+1<=e.1.size+Jz1 l
  omega
structure FS where
 (q:Option (TR × Nat × Nat)) (stk:List (TR × Nat × Nat)) (b:Option (Int × Nat)) (ver cnt:Nat)
def qL:Option (TR × Nat × Nat)->List (TR × Nat × Nat)
 | none=>[]
 | some e=>[e]
def qR:Option (TR × Nat × Nat)->Nat
 | none=>0
 | some e=>e.1.root
def qZ:Option (TR × Nat × Nat)->Nat
 | none=>0
 | some e=>e.1.size - 1
def rtL (l:List (TR × Nat × Nat)):List Nat:=l.reverse.map fun e=>e.1.root
abbrev LK:=Nat->List (TR × Nat × Nat)->Option (Int × Nat)->Nat
structure FInv (N:Nat->ND)(C:Nat->Nat->Prop)(n:Nat)(o:List Nat)(H:Nat->Option Int)(tot:Nat)(lk:LK)(T:Nat)(s:FS):Prop where
 w:WInv N C n o H (qL s.q++s.stk) s.b
 z:s.q=none->s.stk=[]
 c:s.cnt+Jz1 s.stk+qZ s.q<=tot
 k:∃ f,Jz1 (qL s.q++s.stk)<=f/\s.cnt+lk f (qL s.q++s.stk) s.b=T+(qL s.q).length
def muF (s:FS):Nat:=Jz1 (qL s.q++s.stk)
theorem Kd8 (l:List (TR × Nat × Nat)):(rtL l).length=l.length:=by unfold rtL;simp
theorem Ks5 (e:TR × Nat × Nat)(l:List (TR × Nat × Nat)):rtL (e::l)=rtL l++[e.1.root]:=by unfold rtL;simp
section
variable {N:Nat->ND}{C:Nat->Nat->Prop}{n tot T:Nat}{o:List Nat}{H:Nat->Option Int}{lk:LK}{e x:TR × Nat × Nat}{stk stk':List (TR × Nat × Nat)}{b b':Option (Int × Nat)}{ver ver' cnt:Nat}
theorem FInv.step (h:FInv N C n o H tot lk T ⟨some e,stk,b,ver,cnt⟩){l:List (TR × Nat × Nat)}(hs:Jz1 l<e.1.size+Jz1 stk)(hl:∀ f,lk (f+1) (e::stk) b=1+lk f l b'):∃ f,Jz1 l<=f/\cnt+lk f l b'=T:=by
 obtain ⟨f,h1,h2⟩:=h.k
 have h1':e.1.size+Jz1 stk<=f:=h1
 have h2':cnt+lk f (e::stk) b=T+1:=h2
 obtain ⟨g,rfl⟩:∃ g,f=g+1:=⟨f - 1,by omega⟩
 rw [hl] at h2'
 exact ⟨g,by omega,by omega⟩
theorem FInv.pop0 (h:FInv N C n o H tot lk T ⟨some e,stk,b,ver,cnt⟩)(w:WInv N C n o H [] b')(hs:Jz1 []<e.1.size+Jz1 stk)(hl:∀ f,lk (f+1) (e::stk) b=1+lk f [] b'):FInv N C n o H tot lk T ⟨none,[],b',ver',cnt⟩ :=
 ⟨w,fun _=>rfl,by have:=h.c;show cnt+0+0<=tot;dsimp only at this;omega,h.step hs hl⟩
theorem FInv.pop1 (h:FInv N C n o H tot lk T ⟨some e,stk,b,ver,cnt⟩)(w:WInv N C n o H (x::stk') b')(hs:Jz1 (x::stk')<e.1.size+Jz1 stk)(hl:∀ f,lk (f+1) (e::stk) b=1+lk f (x::stk') b'):FInv N C n o H tot lk T ⟨some x,stk',b',ver',cnt+1⟩ :=
 by
  refine ⟨w,fun q=>(nomatch q),?_,?_⟩
  · have:=h.c
    have hs':x.1.size+Jz1 stk'<e.1.size+Jz1 stk:=hs
    have h1:=Kb3 x.1
    have h2:=Kb3 e.1
    have h3:cnt+Jz1 stk+(e.1.size - 1)<=tot:=this
    show cnt+1+Jz1 stk'+(x.1.size - 1)<=tot
    omega
  obtain ⟨f,h1,h2⟩:=h.step hs hl
  exact ⟨f,h1,by show cnt+1+lk f (x::stk') b'=T+1;omega⟩
end
def Qm3 (N:Nat->ND):TR->Nat
 | .leaf a=>(N a).count.toNat
 | .node _ l r=>Qm3 N l+Qm3 N r
theorem Fit.wid {N:Nat->ND}{C:Nat->Nat->Prop}{t:TR}{a b:Nat}(h:Fit N C t a b):b=a+Qm3 N t:=by
 induction h with
 | leaf _ _ _ h _ _ hc=>show _=_+(N _).count.toNat;rw [hc];omega
 | node _ l r _ _ _ _ _ _ _ _ _ h1 h2=>show _=_+(Qm3 N l+Qm3 N r);omega
open Classical in
noncomputable def Jy6 (nds:List ND)(o:List Nat)(r:RY)(mv:Nat->MV)(near far:Int):LK
 | 0,_,_=>0
 | _+1,[],_=>0
 | f+1,(t,a,c)::stk,b =>
  if ¬Jt6 (atP (Jx8 nds t.root).p r.part) (Jz2 r near (Jo4 far b)) then 1+Jy6 nds o r mv near far f stk b else
   match t with
   | .leaf _=>1+Jy6 nds o r mv near far f stk (Jp8 (Hq r mv near far) o a b (c - a))
   | .node _ l r'=>1+Jy6 nds o r mv near far f ((l,a,a+Qm3 (Jx8 nds) l)::(r',a+Qm3 (Jx8 nds) l,c)::stk) b
section
variable {nds:List ND}{o:List Nat}{r:RY}{mv:Nat->MV}{near far:Int}{f a c at':Nat}{t l r':TR}{stk:List (TR × Nat × Nat)}{b:Option (Int × Nat)}
theorem Vk0:Jy6 nds o r mv near far f [] b=0:=by cases f<;>rfl
theorem Ky6 {e:TR × Nat × Nat}(h:¬Jt6 (atP (Jx8 nds e.1.root).p r.part) (Jz2 r near (Jo4 far b))):Jy6 nds o r mv near far (f+1) (e::stk) b=1+Jy6 nds o r mv near far f stk b:=by
 obtain ⟨t,a,c⟩:=e
 exact if_pos h
theorem Ky7 (h:Jt6 (atP (Jx8 nds at').p r.part) (Jz2 r near (Jo4 far b))):Jy6 nds o r mv near far (f+1) ((.leaf at',a,c)::stk) b=1+Jy6 nds o r mv near far f stk (Jp8 (Hq r mv near far) o a b (c - a)):=if_neg (fun q=>q h)
theorem Qz5 (h:Jt6 (atP (Jx8 nds at').p r.part) (Jz2 r near (Jo4 far b))):Jy6 nds o r mv near far (f+1) ((.node at' l r',a,c)::stk) b=1+Jy6 nds o r mv near far f ((l,a,a+Qm3 (Jx8 nds) l)::(r',a+Qm3 (Jx8 nds) l,c)::stk) b:=if_neg (fun q=>q h)
end
theorem Xc4 {N:Nat->ND}{C:Nat->Nat->Prop}{n:Nat}{o:List Nat}{r:RY}{mv:Nat->MV}{near far:Int}{stk:List (TR × Nat × Nat)}{b:Option (Int × Nat)}(h:WInv N C n o (Hq r mv near far) stk b)(a k:Nat):Jo4 far (Jp8 (Hq r mv near far) o a b k)<=far:=by
 obtain ⟨V,h1,_⟩:=h.ex
 exact Vk6 (Vd3 r mv near far) h1 k
theorem Qo3 (r:RY)(mv:Nat->MV)(near far:Int)(b:Option (Int × Nat))(i:Nat)(hb:Jo4 far b<=far) :
  (Hq r mv near (Jo4 far b) i=none/\Kv0 b i (Hq r mv near far i)=b) \/
  (∃ t,Hq r mv near (Jo4 far b) i=some t/\b=none/\Kv0 b i (Hq r mv near far i)=some (t,i)) \/
  (∃ t u j,Hq r mv near (Jo4 far b) i=some t/\b=some (u,j)/\t<u/\Kv0 b i (Hq r mv near far i)=some (t,i)) \/
  (∃ t u j,Hq r mv near (Jo4 far b) i=some t/\b=some (u,j)/\¬t<u/\t=u/\i<j/\Kv0 b i (Hq r mv near far i)=some (t,i)) \/
  (∃ t u j,Hq r mv near (Jo4 far b) i=some t/\b=some (u,j)/\¬t<u/\t=u/\¬i<j/\Kv0 b i (Hq r mv near far i)=b) \/
  (∃ t u j,Hq r mv near (Jo4 far b) i=some t/\b=some (u,j)/\¬t<u/\¬t=u/\Kv0 b i (Hq r mv near far i)=b):=by
 have e:Kv0 b i (Hq r mv near (Jo4 far b) i)=Kv0 b i (Hq r mv near far i):=by
  rw [Xg6 r mv hb i];exact Vp2 (S:=fun _=>True) (Vd3 r mv near far) i
 rw [<-e]
 cases h:Hq r mv near (Jo4 far b) i with
 | none=>exact .inl ⟨rfl,rfl⟩
 | some t =>
  match b with
  | none=>exact .inr (.inl ⟨t,rfl,rfl,rfl⟩)
  | some (u,j) =>
   by_cases g:t<u
   ·exact .inr (.inr (.inl ⟨t,u,j,rfl,rfl,g,if_pos (.inl g)⟩))
   by_cases g2:t=u
   ·by_cases g3:i<j
    ·exact .inr (.inr (.inr (.inl ⟨t,u,j,rfl,rfl,g,g2,g3,if_pos (.inr ⟨g2,g3⟩)⟩)))
    exact .inr (.inr (.inr (.inr (.inl ⟨t,u,j,rfl,rfl,g,g2,g3,if_neg (fun q=>q.elim g fun q=>g3 q.2)⟩))))
   exact .inr (.inr (.inr (.inr (.inr ⟨t,u,j,rfl,rfl,g,g2,if_neg (fun q=>q.elim g fun q=>g2 q.1)⟩))))
theorem WInv.missN {nds:List ND}{n:Nat}{o:List Nat}{r:RY}{mv:Nat->MV}{near far:Int}{e:TR × Nat × Nat}{stk:List (TR × Nat × Nat)}{b:Option (Int × Nat)}
  (h:WInv (Jx8 nds) (Xh0 (prM mv) nds o) n o (Hq r mv near far) (e::stk) b) (hm:¬Jt6 (atP (Jx8 nds e.1.root).p r.part) (Jz2 r near (Jo4 far b))):WInv (Jx8 nds) (Xh0 (prM mv) nds o) n o (Hq r mv near far) stk b:=by
 obtain ⟨t,a,c⟩:=e
 refine h.miss (Vd3 r mv near far) fun x i h1 h2 hx u hu=>?_
 have hc:=(h.fit _ List.mem_cons_self).1.cov x h1 h2
 exact Qy1 (fun u q hq=>hc i u q hx hq) hm hu
theorem WInv.kinds {N:Nat->ND}{C:Nat->Nat->Prop}{n:Nat}{o:List Nat}{H:Nat->Option Int}{e:TR × Nat × Nat}{stk:List (TR × Nat × Nat)}{b:Option (Int × Nat)}(h:WInv N C n o H (e::stk) b) :
  (∃ at' a c,e=(.leaf at',a,c)/\(N at').first=(a:Int)/\(N at').count=((c - a:Nat):Int)/\a<c/\c<=a+4/\c<=n) \/
  (∃ at' l r a m c,e=(.node at' l r,a,c)/\(N at').count=0/\(N at').left=(l.root:Int)/\(N at').right=(r.root:Int)/\m=a+Qm3 N l/\WInv N C n o H ((l,a,m)::(r,m,c)::stk) b):=by
 obtain ⟨t,a,c⟩:=e
 have h0:=h.fit _ List.mem_cons_self
 cases h1:t with
 | leaf at' =>
  subst h1
  obtain ⟨f0,f1⟩:=h0
  cases f0 with
  | leaf _ _ _ q1 q2 q3 q4 _=>exact .inl ⟨at',a,c,rfl,q3,q4,q1,q2,f1⟩
 | node at' l r =>
  subst h1
  obtain ⟨m,hm⟩:=h.down
  obtain ⟨f0,f1⟩:=h0
  cases f0 with
  | node _ _ _ _ _ _ q1 q2 q3 _ _ _=>exact .inr ⟨at',l,r,a,m,c,rfl,q1,q2,q3,(hm.fit _ List.mem_cons_self).1.wid,hm⟩
theorem Vc2 (h g:HT)(m:Ja1)(e1:h.t<g.t):Ctr Tryz.prog 128 [.agg (htC h),.agg (htC g)] m (.one (.bool true)) m:=by
 refine Ctr.en Tryz.func128 [.tmp 4] 24 fun hwf Q hQ=>?_
 have U1:=ca3 @Ji8 @Ja4 e1
 refine AW.c 2 U1 Z0 ?_
 exact AW.ret (hQ _ _ _ (RetP.z hwf U1))
theorem Qa4 (h g:HT)(m:Ja1)(e1:¬h.t<g.t)(e2:h.t=g.t):Ctr Tryz.prog 128 [.agg (htC h),.agg (htC g)] m (.one (.bool (decide (h.i<g.i)))) m:=by
 refine Ctr.en Tryz.func128 [.tmp 4] 24 fun hwf Q hQ=>?_
 have e3:(h.t ==g.t)=true:=beq_iff_eq.2 e2
 have U2:=ca4 @Ji8 @Ja4 e1 e3
 refine AW.c 2 U2 Z0 ?_
 exact AW.ret (hQ _ _ _ (RetP.z hwf U2))
theorem Vc1 (h g:HT)(m:Ja1)(e1:¬h.t<g.t)(e2:¬h.t=g.t):Ctr Tryz.prog 128 [.agg (htC h),.agg (htC g)] m (.one (.bool false)) m:=by
 refine Ctr.en Tryz.func128 [.tmp 4] 24 fun hwf Q hQ=>?_
 have e3:(h.t ==g.t)=false:=by simpa using e2
 have U3:=ca4 @Ji8 @Ja4 e1 e3
 refine AW.c 2 U3 Z0 ?_
 exact AW.ret (hQ _ _ _ (RetP.z hwf U3))
theorem Qi1 (p:PR)(a b c d:Int)(m:Ja1):Ctr Tryz.prog 126 [.agg (prC p++[.int .i64 a,.int .i64 b,.int .i64 c,.int .i64 d])] m (.one (.bool (decide (0<d)))) m:=by
 refine Ctr.en Tryz.func126 [.tmp 2] 6 fun hwf Q hQ=>?_
 have U4:=ca3 @Kf9 @Je7 @Ja4
 refine AW.c 2 U4 Z0 ?_
 exact AW.ret (hQ _ _ _ (RetP.z hwf U4))
theorem Xd5 (r:RY)(mv:Nat->MV)(nb nv ob ov sb sv n T:Nat)(t:TR)(nds:List ND)(o:List Nat)(near far:Int)(m:Ja1)(hnb:∃ k ez,m[nb]?=some ⟨k,255,nv,ez,ndL nds⟩)(hob:∃ k ez,m[ob]?=some ⟨k,3,ov,ez,iC o⟩)(hsb:∃ k ez,m[sb]?=some ⟨k,204,sv,ez,Jb6 n (mF mv)⟩)(hn:n<=400000)(hnl:nds.length<=2000000)(hfit:Fit (Jx8 nds) (Xh0 (prM mv) nds o) t 0 n)(hrt:t.root=0)(hop:o.Perm (List.range n))(hT:Jy6 nds o r mv near far (2*n) [(t,0,n)] none=T):Ctr Tryz.prog 50 [.agg [.sl nb nv 0 nds.length,.sl ob ov 0 n,.sl sb sv 0 n],.agg (ryC r),.one (.int .i64 near),.one (.int .i64 far)] m (.tup [(true,htC (Jf0 r mv (Jg9 (Hq r mv near far) n))),(false,[.bool (Jg9 (Hq r mv near far) n).isSome]),(false,[.int .i64 (T:Int)])]) m:=by
 refine Ctr.en Tryz.func50 [.cell 8 165,.tmp 9,.tmp 10] 124 fun hwf Q hQ=>?_
 obtain ⟨kn,en,hnb⟩:=hnb
 obtain ⟨ko,eo,hob⟩:=hob
 obtain ⟨ks,es,hsb⟩:=hsb
 have ln:=Jb4 hnb
 have lo:=Jb4 hob
 have ls:=Jb4 hsb
 have hol:o.length=n:=by have:=hop.length_eq;simpa using this
 have nl:=Kk0 nds
 have oc:(iC o).length=n:=by rw [Jg5,hol]
 have sc:(Jb6 n (mF mv)).length=n*24:=Ja9 (w:=24) (F:=mF mv) (fun _=>rfl) _
 have h0:0<nds.length:=by have:=Qy2 hfit;omega
 have hz0:((nds.length:Int) ==0)=false:=by rw [beq_eq_false_iff_ne];omega
 have hsz:=hfit.size2
 have hpz:=Kb3 t
 have hq0:qR (some (t,0,n))=0:=hrt
 have hI0:FInv (Jx8 nds) (Xh0 (prM mv) nds o) n o (Hq r mv near far) (2*n) (Jy6 nds o r mv near far) T ⟨some (t,0,n),[],none,0,1⟩ :=
   ⟨WInv.start hfit hol,fun q=>(nomatch q),by show 1+0+(t.size - 1)<=2*n;omega,2*n,by show t.size+0<=2*n;omega,by show 1+Jy6 nds o r mv near far (2*n) [(t,0,n)] none=T+1;omega⟩
 have U5:=ca4 hnb (Ja8 hnb) hob (ca4 (Ja8 hob) hsb (Ja8 hsb) (ca4 nl oc sc (ca3 hz0 @Jh2 @Ja4)))
 refine AW.c 3 U5 Z0 ?_
 refine AW.q fun K hK=>?_
 refine AW.c 1 U5 Z0 ?_
 apply AW.x rfl
 apply AW.z
 apply hK;clear hK
 refine AW.c 1 U5 Z0 ?_
 refine AW.q fun K hK=>?_
 refine AW.sr 1 fun K hK=>?_
 simp only [push_cast,simprocAttr,U5]
 refine CThen.by (Kt4 (m.length+5) (m.length+4) 0 0 [] 0 _ (by (simp only [push_cast,simprocAttr])<;>rfl) (by (simp only [push_cast,simprocAttr])<;>rfl) (by omega) (by omega) (by simp)) ?_
 simp only [push_cast,simprocAttr,U5]
 apply hK;clear hK
 apply AW.b
 refine AW.loopK [2,4,5,8,11,13] (fun s=>FInv (Jx8 nds) (Xh0 (prM mv) nds o) n o (Hq r mv near far) (2*n) (Jy6 nds o r mv near far) T s) (fun s=>[(3,.one (.int .i64 (Jo4 far s.b))),(12,.one (.bool s.b.isSome)),(14,.one (.int .i64 (((qR s.q:Nat):Int)))),(15,.one (.bool s.q.isSome))]) (fun s=>[(m.length+3,⟨.fix,165,0,0,[.int .i64 (Jf0 r mv s.b).t,.int .i64 (Jf0 r mv s.b).i,.int .i64 ((Jf0 r mv s.b).p 0),.int .i64 ((Jf0 r mv s.b).p 1),.int .i64 ((Jf0 r mv s.b).p 2),.int .i64 ((Jf0 r mv s.b).n 0),.int .i64 ((Jf0 r mv s.b).n 1),.int .i64 ((Jf0 r mv s.b).n 2)]⟩),(m.length+4,⟨.grow,3,s.ver,1,iC (rtL s.stk)⟩),(m.length+5,⟨.fix,251,0,0,[.sl (m.length+4) s.ver 0 s.stk.length,.int .i64 (s.cnt:Int)]⟩)]) (fun s=>muF s) ⟨some (t,0,n),[],none,0,1⟩ hI0 ?_ ?_ fun s hi3=>?_
 · first|rfl|(simp only [KS,simprocAttr,hq0,Jf0,ht0,z0V,Jo4,rtL,List.reverse_nil,List.map_nil,iC,Int.natCast_zero,Int.natCast_one,List.length_nil,Option.isSome_none,Option.isSome_some]<;>repeat' (first|rfl|apply And.intro))
 · (simp only [Ja3,push_cast,simprocAttr,Jf0,ht0,z0V,rtL,List.reverse_nil,List.map_nil,iC])<;>rfl
 obtain ⟨sq,stk,b,ver,cnt⟩:=s
 have hfi:=hi3
 have hcb:=hfi.c
 dsimp only at hcb hfi ⊢
 try simp only [Jb2,Ja3,push_cast,simprocAttr,U5]
 refine AW.q fun K hK=>?_
 refine AW.c 1 U5 Z0 ?_
 refine AW.cond rfl (fun h35=>?_) (fun h35=>?_)
 ·obtain ⟨e,rfl⟩:=Option.isSome_iff_exists.1 h35
  have w0:WInv (Jx8 nds) (Xh0 (prM mv) nds o) n o (Hq r mv near far) (e::stk) b:=hfi.w
  have hcb2:cnt+Jz1 stk+(e.1.size - 1)<=2*n:=hcb
  have hsl:=Qt1 stk
  have hse:=Kb3 e.1
  have hlt:=Qy2 (w0.fit e List.mem_cons_self).1
  obtain ⟨nd,hnd⟩:∃ nd,nd=Jx8 nds e.1.root:=⟨_,rfl⟩
  have hq1:((qR (some e):Nat):Int)=(e.1.root:Int):=rfl
  obtain ⟨x,hx⟩:∃ x,x=e.1.root:=⟨_,rfl⟩
  have hlx:x<nds.length:=by rw [hx];exact hlt
  have ga:List.take 16 (List.drop (x*16) (ndL nds))=[.int .i64 (nd.p.a.lo 0),.int .i64 (nd.p.a.lo 1),.int .i64 (nd.p.a.lo 2),.int .i64 (nd.p.a.hi 0),.int .i64 (nd.p.a.hi 1),.int .i64 (nd.p.a.hi 2),.int .i64 (nd.p.b.lo 0),.int .i64 (nd.p.b.lo 1),.int .i64 (nd.p.b.lo 2),.int .i64 (nd.p.b.hi 0),.int .i64 (nd.p.b.hi 1),.int .i64 (nd.p.b.hi 2),.int .i64 nd.left,.int .i64 nd.right,.int .i64 nd.first,.int .i64 nd.count]:=by
    have g9:=Jc0 (w:=16) (F:=fun i=>ndC (nds.getD i nd0)) (fun _=>rfl) hlx
    have g8:nd=nds.getD x nd0:=by rw [hnd,<-hx];exact Vi6 hlx
    rw [<-g8] at g9
    exact g9
  have c1:(0:Int)<=(x:Int):=by omega
  have c2:(x:Int)<(nds.length:Int):=by omega
  have c3:x*16+16<=nds.length*16:=by omega
  rw [hq1,<-hx]
  apply AW.z
  apply hK;clear hK
  refine AW.q fun K hK=>?_
  apply AW.b
  have U6:=ca4 U5 ga c1 (ca3 c2 c3 hlx)
  refine AW.c 1 U6 Z0 ?_
  refine AW.q fun K hK=>?_
  refine AW.q fun K hK=>?_
  by_cases hme:Jt6 (atP (Jx8 nds e.1.root).p r.part) (Jz2 r near (Jo4 far b))
  ·have hmb:(true=true)↔Jt6 (atP nd.p r.part) (Jz2 r near (Jo4 far b)):=by rw [hnd];exact ⟨fun _=>hme,fun _=>rfl⟩
   refine AW.e [.val,.rd 0,.val,.rd 0,.ext,.rd 0,.val,.val,.ext,.ext,.val] fol U6 (ca3 (Xn0 nd.p r.part) (Kx5 r near (Jo4 far b)) (Qz3 (atP nd.p r.part) (Jz2 r near (Jo4 far b)) _ true hmb)) ?_
   apply hK;clear hK
   apply AW.x rfl
   apply AW.z
   apply hK;clear hK
   refine AW.q fun K hK=>?_
   refine AW.q fun K hK=>?_
   rcases w0.kinds with ⟨at',a,c,rfl,k1,k2,k3,k4,k5⟩|⟨at',l,r',a,m9,c,rfl,k1,k2,k3,km,w9⟩
   ·have hm2:Jt6 (atP (Jx8 nds at').p r.part) (Jz2 r near (Jo4 far b)):=by simpa [hnd,TR.root] using hme
    obtain ⟨w9,hw9⟩:∃ w,w=c - a:=⟨_,rfl⟩
    have hnc:(0:Int)<(w9:Int):=by omega
    have hnf:nd.first=(a:Int):=by rw [hnd];exact k1
    have hnt:nd.count=(w9:Int):=by rw [hnd,hw9];exact k2
    have hwa:IntKind.i64.wrap ((a:Int)+(w9:Int))=(c:Int):=by rw [show (a:Int)+(w9:Int)=(c:Int) by omega];exact wi (by omega)
    have f1:(0:Int)<=(a:Int):=by omega
    have f2:(a:Int)<=(c:Int):=by omega
    have f3:(c:Int)<=(n:Int):=by omega
    have f4:c<=n:=k5
    have f5:a<=c:=by omega
    have hca:(c:Int) - (a:Int)=(w9:Int):=by omega
    have hw8:c - a=w9:=hw9.symm
    have w1:=w0.leaf hol k3
    rw [hw8] at w1
    have U7:=ca4 U6 hnc hnf (ca4 hnt hwa f1 (ca4 f2 f3 f4 (ca3 f5 hca hw8)))
    refine AW.g U7 (Qi1 nd.p _ _ _ _ _) ?_
    apply hK;clear hK
    apply AW.x rfl
    apply AW.z
    apply hK;clear hK
    refine AW.c 1 U7 Z0 ?_
    apply AW.b
    refine AW.loopK [2,4,5,8,11,13,84,85] (fun i=>i<=w9) (fun i=>[(3,.one (.int .i64 (Jo4 far (Jp8 (Hq r mv near far) o a b i)))),(12,.one (.bool (Jp8 (Hq r mv near far) o a b i).isSome)),(86,.one (.int .i64 (i:Int)))]) (fun i=>[(m.length+3,⟨.fix,165,0,0,[.int .i64 (Jf0 r mv (Jp8 (Hq r mv near far) o a b i)).t,.int .i64 (Jf0 r mv (Jp8 (Hq r mv near far) o a b i)).i,.int .i64 ((Jf0 r mv (Jp8 (Hq r mv near far) o a b i)).p 0),.int .i64 ((Jf0 r mv (Jp8 (Hq r mv near far) o a b i)).p 1),.int .i64 ((Jf0 r mv (Jp8 (Hq r mv near far) o a b i)).p 2),.int .i64 ((Jf0 r mv (Jp8 (Hq r mv near far) o a b i)).n 0),.int .i64 ((Jf0 r mv (Jp8 (Hq r mv near far) o a b i)).n 1),.int .i64 ((Jf0 r mv (Jp8 (Hq r mv near far) o a b i)).n 2)]⟩)]) (fun i=>w9 - i) 0 (by omega) ?_ ?_ fun i hi10=>?_
    · first|rfl|(simp only [KS,simprocAttr,Jp8,Int.natCast_zero]<;>repeat' (first|rfl|apply And.intro))
    · (simp only [Ja3,push_cast,simprocAttr,Jp8])<;>rfl
    try simp only [Jb2,Ja3,push_cast,simprocAttr,U7]
    refine AW.c 1 U7 Z0 ?_
    refine AW.q fun K hK=>?_
    refine AW.cond rfl (fun h87=>?_) (fun h87=>?_)
    ·have hlt:i<w9:=by have:=of_decide_eq_true h87;omega
     have c1:(0:Int)<=(i:Int):=by omega
     have c2:(i:Int)<(w9:Int):=by omega
     obtain ⟨bi,hbi⟩:∃ bi,bi=(Jp8 (Hq r mv near far) o a b i):=⟨_,rfl⟩
     have hfb:Jo4 far bi<=far:=by rw [hbi];exact Xc4 w0 a i
     have hstep0:Jp8 (Hq r mv near far) o a b (i+1)=Kv0 bi (o.getD (a+i) 0) (Hq r mv near far (o.getD (a+i) 0)):=by rw [hbi];rfl
     have z1:(0:Int)<=(i:Int):=by omega
     have z2:(i:Int)<(w9:Int):=by omega
     have z3:a+i<o.length:=by omega
     obtain ⟨i9,hi9⟩:∃ i9,i9=o.getD (a+i) 0:=⟨_,rfl⟩
     rw [<-hi9] at hstep0
     have hcx:(iC o)[a+i]?=some (.int .i64 (i9:Int)):=by rw [hi9];exact Km1 z3
     have x1:i9<n:=by
       have hm9:i9 ∈ o:=by rw [hi9,List.getD_eq_getElem?_getD,List.getElem?_eq_getElem z3];exact List.getElem_mem _
       simpa using hop.mem_iff.1 hm9
     have x2:(0:Int)<=(i9:Int):=by omega
     have x3:(i9:Int)<(n:Int):=by omega
     have x4:i9*24+24<=n*24:=by omega
     have gs:=Jc0 (w:=24) (F:=mF mv) (fun _=>rfl) x1
     have gsx:mF mv i9=[.int .i64 (mv i9).A.kind,.int .i64 (mv i9).A.paint,.int .i64 ((mv i9).A.P 0 0),.int .i64 ((mv i9).A.P 0 1),.int .i64 ((mv i9).A.P 0 2),.int .i64 ((mv i9).A.P 1 0),.int .i64 ((mv i9).A.P 1 1),.int .i64 ((mv i9).A.P 1 2),.int .i64 ((mv i9).A.P 2 0),.int .i64 ((mv i9).A.P 2 1),.int .i64 ((mv i9).A.P 2 2),.int .i64 (mv i9).A.r,.int .i64 (mv i9).B.kind,.int .i64 (mv i9).B.paint,.int .i64 ((mv i9).B.P 0 0),.int .i64 ((mv i9).B.P 0 1),.int .i64 ((mv i9).B.P 0 2),.int .i64 ((mv i9).B.P 1 0),.int .i64 ((mv i9).B.P 1 1),.int .i64 ((mv i9).B.P 1 2),.int .i64 ((mv i9).B.P 2 0),.int .i64 ((mv i9).B.P 2 1),.int .i64 ((mv i9).B.P 2 2),.int .i64 (mv i9).B.r]:=rfl
     rw [<-hbi]
     apply AW.z
     apply hK;clear hK
     refine AW.q fun K hK=>?_
     apply AW.b
     have U8:=ca4 U7 hcx x1 (ca4 x2 x3 x4 (ca4 gs gsx z1 (ca2 z2 hlt)))
     refine AW.c 1 U8 Z0 ?_
     refine AW.q fun K hK=>?_
     rcases Qo3 r mv near far bi i9 hfb with ⟨ho,hst⟩|⟨t9,ho,hs0,hst⟩|⟨t9,u9,j9,ho,hs0,hg,hst⟩|⟨t9,u9,j9,ho,hs0,hg,hg2,hg3,hst⟩|⟨t9,u9,j9,ho,hs0,hg,hg2,hg3,hst⟩|⟨t9,u9,j9,ho,hs0,hg,hg2,hst⟩
     all_goals (have hstep:=hstep0.trans hst)
     ·have hth:htC (Ju1 r (atM (mv i9) r.part) none).1=[.int .i64 0,.int .i64 0,.int .i64 0,.int .i64 0,.int .i64 0,.int .i64 0,.int .i64 0,.int .i64 0]:=rfl
      have htb:(Ju1 r (atM (mv i9) r.part) none).2=false:=rfl
      have ho9:Jr2 r (atM (mv i9) r.part) near (Jo4 far bi)=none:=ho
      have q_1:=Kp4 r (mv i9) near (Jo4 far bi)
      rw [ho9] at q_1
      have U9:=ca3 U8 hth htb
      refine AW.e [.rd 0,.val,.rd 0,.val,.val,.rd 0,.val,.val,.ext,.val,.val,.val,.fl,.wr,.val] fol U9 q_1 ?_
      apply hK;clear hK
      refine AW.c 2 U9 Z0 ?_
      apply AW.x rfl
      apply AW.z
      apply Ja6
      apply hK;clear hK
      refine AW.g U9 Z0 ?_
      apply Jc1
      have hwi:IntKind.i64.wrap ((i:Int)+1)=(i:Int)+1:=wi (by omega)
      refine ⟨i+1,by omega,by omega,?_⟩
      try simp only [Jb2,Ja3,push_cast,simprocAttr,U9,hwi,hstep]
      exact Weak.to (extra:=_) (by simp only [KS,simprocAttr,hwi,hstep]) (by first|rfl|(simp only [List.append_assoc,List.cons_append,List.nil_append];rfl)) (by first|rfl|(simp [AV.below,CV.below];done)|(simp [AV.below,CV.below];omega)) (by exact MWf.app (hwf.grow (by simp)) (Ja0 (by simp [CV.below];omega) (Ja0 rfl (Ja0 rfl (Ja0 rfl (Ja0 (Jg6 _ _) (Ja0 (by simp [CV.below]) (Ja0 rfl Jb8))))))))
     ·have hth:htC (Ju1 r (atM (mv i9) r.part) (some t9)).1=[.int .i64 t9,.int .i64 0,.int .i64 (Je4 r t9 0),.int .i64 (Je4 r t9 1),.int .i64 (Je4 r t9 2),.int .i64 (Jj2 r (atM (mv i9) r.part) t9 0),.int .i64 (Jj2 r (atM (mv i9) r.part) t9 1),.int .i64 (Jj2 r (atM (mv i9) r.part) t9 2)]:=rfl
      have htb:(Ju1 r (atM (mv i9) r.part) (some t9)).2=true:=rfl
      have hbh:htC (Jf0 r mv (some (t9,i9)))=[.int .i64 t9,.int .i64 (i9:Int),.int .i64 (Je4 r t9 0),.int .i64 (Je4 r t9 1),.int .i64 (Je4 r t9 2),.int .i64 (Jj2 r (atM (mv i9) r.part) t9 0),.int .i64 (Jj2 r (atM (mv i9) r.part) t9 1),.int .i64 (Jj2 r (atM (mv i9) r.part) t9 2)]:=rfl
      have ho9:Jr2 r (atM (mv i9) r.part) near (Jo4 far bi)=some t9:=ho
      have hfr:Jo4 far (some (t9,i9))=t9:=rfl
      have q_2:=Kp4 r (mv i9) near (Jo4 far bi)
      rw [ho9,hs0] at q_2
      have U10:=ca4 U8 hs0 hth (ca3 htb hbh hfr)
      refine AW.e [.rd 0,.val,.rd 0,.val,.val,.rd 0,.val,.val,.ext,.val,.val,.val,.fl,.wr,.val] fol U10 q_2 ?_
      apply hK;clear hK
      refine AW.c 2 U10 Z0 ?_
      apply AW.y rfl
      refine AW.c 1 U10 Z0 ?_
      refine AW.g U10 Z0 ?_
      apply Ja6
      apply hK;clear hK
      refine AW.g U10 Z0 ?_
      apply Jc1
      have hwi:IntKind.i64.wrap ((i:Int)+1)=(i:Int)+1:=wi (by omega)
      refine ⟨i+1,by omega,by omega,?_⟩
      try simp only [Jb2,Ja3,push_cast,simprocAttr,U10,hwi,hstep]
      exact Weak.to (extra:=_) (by simp only [KS,simprocAttr,hwi,hstep]) (by first|rfl|(simp only [List.append_assoc,List.cons_append,List.nil_append];rfl)) (by first|rfl|(simp [AV.below,CV.below];done)|(simp [AV.below,CV.below];omega)) (by exact MWf.app (hwf.grow (by simp)) (Ja0 (by simp [CV.below];omega) (Ja0 rfl (Ja0 rfl (Ja0 rfl (Ja0 (Jg6 _ _) (Ja0 (by simp [CV.below]) (Ja0 rfl Jb8))))))))
     ·have hth:htC (Ju1 r (atM (mv i9) r.part) (some t9)).1=[.int .i64 t9,.int .i64 0,.int .i64 (Je4 r t9 0),.int .i64 (Je4 r t9 1),.int .i64 (Je4 r t9 2),.int .i64 (Jj2 r (atM (mv i9) r.part) t9 0),.int .i64 (Jj2 r (atM (mv i9) r.part) t9 1),.int .i64 (Jj2 r (atM (mv i9) r.part) t9 2)]:=rfl
      have htb:(Ju1 r (atM (mv i9) r.part) (some t9)).2=true:=rfl
      have hbh:htC (Jf0 r mv (some (t9,i9)))=[.int .i64 t9,.int .i64 (i9:Int),.int .i64 (Je4 r t9 0),.int .i64 (Je4 r t9 1),.int .i64 (Je4 r t9 2),.int .i64 (Jj2 r (atM (mv i9) r.part) t9 0),.int .i64 (Jj2 r (atM (mv i9) r.part) t9 1),.int .i64 (Jj2 r (atM (mv i9) r.part) t9 2)]:=rfl
      have ho9:Jr2 r (atM (mv i9) r.part) near (Jo4 far bi)=some t9:=ho
      have hfr:Jo4 far (some (t9,i9))=t9:=rfl
      have q_3:=Kp4 r (mv i9) near (Jo4 far bi)
      rw [ho9,hs0] at q_3
      have U11:=ca4 U8 hs0 hth (ca3 htb hbh hfr)
      refine AW.e [.rd 0,.val,.rd 0,.val,.val,.rd 0,.val,.val,.ext,.val,.val,.val,.fl,.wr,.val] fol U11 q_3 ?_
      apply hK;clear hK
      refine AW.c 2 U11 (Vc2 ⟨t9,(i9:Int),Je4 r t9,Jj2 r (atM (mv i9) r.part) t9⟩ (Jf0 r mv (some (u9,j9))) _ hg) ?_
      apply AW.y rfl
      refine AW.c 1 U11 Z0 ?_
      refine AW.g U11 Z0 ?_
      apply Ja6
      apply hK;clear hK
      refine AW.g U11 Z0 ?_
      apply Jc1
      have hwi:IntKind.i64.wrap ((i:Int)+1)=(i:Int)+1:=wi (by omega)
      refine ⟨i+1,by omega,by omega,?_⟩
      try simp only [Jb2,Ja3,push_cast,simprocAttr,U11,hwi,hstep]
      exact Weak.to (extra:=_) (by simp only [KS,simprocAttr,hwi,hstep]) (by first|rfl|(simp only [List.append_assoc,List.cons_append,List.nil_append];rfl)) (by first|rfl|(simp [AV.below,CV.below];done)|(simp [AV.below,CV.below];omega)) (by exact MWf.app (hwf.grow (by simp)) (Ja0 (by simp [CV.below];omega) (Ja0 rfl (Ja0 rfl (Ja0 rfl (Ja0 (Jg6 _ _) (Ja0 (by simp [CV.below]) (Ja0 rfl Jb8))))))))
     ·have hth:htC (Ju1 r (atM (mv i9) r.part) (some t9)).1=[.int .i64 t9,.int .i64 0,.int .i64 (Je4 r t9 0),.int .i64 (Je4 r t9 1),.int .i64 (Je4 r t9 2),.int .i64 (Jj2 r (atM (mv i9) r.part) t9 0),.int .i64 (Jj2 r (atM (mv i9) r.part) t9 1),.int .i64 (Jj2 r (atM (mv i9) r.part) t9 2)]:=rfl
      have htb:(Ju1 r (atM (mv i9) r.part) (some t9)).2=true:=rfl
      have hbh:htC (Jf0 r mv (some (t9,i9)))=[.int .i64 t9,.int .i64 (i9:Int),.int .i64 (Je4 r t9 0),.int .i64 (Je4 r t9 1),.int .i64 (Je4 r t9 2),.int .i64 (Jj2 r (atM (mv i9) r.part) t9 0),.int .i64 (Jj2 r (atM (mv i9) r.part) t9 1),.int .i64 (Jj2 r (atM (mv i9) r.part) t9 2)]:=rfl
      have ho9:Jr2 r (atM (mv i9) r.part) near (Jo4 far bi)=some t9:=ho
      have hfr:Jo4 far (some (t9,i9))=t9:=rfl
      have hdi:decide ((i9:Int)<(j9:Int))=true:=decide_eq_true (by omega)
      have q_4:=Kp4 r (mv i9) near (Jo4 far bi)
      rw [ho9,hs0] at q_4
      have U12:=ca4 U8 hs0 hth (ca4 htb hbh hfr hdi)
      refine AW.e [.rd 0,.val,.rd 0,.val,.val,.rd 0,.val,.val,.ext,.val,.val,.val,.fl,.wr,.val] fol U12 q_4 ?_
      apply hK;clear hK
      have q_5:=Qa4 ⟨t9,(i9:Int),Je4 r t9,Jj2 r (atM (mv i9) r.part) t9⟩ (Jf0 r mv (some (u9,j9)))
      rw [show decide (HT.i ⟨t9,(i9:Int),Je4 r t9,Jj2 r (atM (mv i9) r.part) t9⟩ < (Jf0 r mv (some (u9,j9))).i)=true from hdi] at q_5
      refine AW.c 2 U12 (q_5 _ hg hg2) ?_
      apply AW.y rfl
      refine AW.c 1 U12 Z0 ?_
      refine AW.g U12 Z0 ?_
      apply Ja6
      apply hK;clear hK
      refine AW.g U12 Z0 ?_
      apply Jc1
      have hwi:IntKind.i64.wrap ((i:Int)+1)=(i:Int)+1:=wi (by omega)
      refine ⟨i+1,by omega,by omega,?_⟩
      try simp only [Jb2,Ja3,push_cast,simprocAttr,U12,hwi,hstep]
      exact Weak.to (extra:=_) (by simp only [KS,simprocAttr,hwi,hstep]) (by first|rfl|(simp only [List.append_assoc,List.cons_append,List.nil_append];rfl)) (by first|rfl|(simp [AV.below,CV.below];done)|(simp [AV.below,CV.below];omega)) (by exact MWf.app (hwf.grow (by simp)) (Ja0 (by simp [CV.below];omega) (Ja0 rfl (Ja0 rfl (Ja0 rfl (Ja0 (Jg6 _ _) (Ja0 (by simp [CV.below]) (Ja0 rfl Jb8))))))))
     ·have hth:htC (Ju1 r (atM (mv i9) r.part) (some t9)).1=[.int .i64 t9,.int .i64 0,.int .i64 (Je4 r t9 0),.int .i64 (Je4 r t9 1),.int .i64 (Je4 r t9 2),.int .i64 (Jj2 r (atM (mv i9) r.part) t9 0),.int .i64 (Jj2 r (atM (mv i9) r.part) t9 1),.int .i64 (Jj2 r (atM (mv i9) r.part) t9 2)]:=rfl
      have htb:(Ju1 r (atM (mv i9) r.part) (some t9)).2=true:=rfl
      have hbh:htC (Jf0 r mv (some (t9,i9)))=[.int .i64 t9,.int .i64 (i9:Int),.int .i64 (Je4 r t9 0),.int .i64 (Je4 r t9 1),.int .i64 (Je4 r t9 2),.int .i64 (Jj2 r (atM (mv i9) r.part) t9 0),.int .i64 (Jj2 r (atM (mv i9) r.part) t9 1),.int .i64 (Jj2 r (atM (mv i9) r.part) t9 2)]:=rfl
      have ho9:Jr2 r (atM (mv i9) r.part) near (Jo4 far bi)=some t9:=ho
      have hdi:decide ((i9:Int)<(j9:Int))=false:=decide_eq_false (by omega)
      have q_6:=Kp4 r (mv i9) near (Jo4 far bi)
      rw [ho9,hs0] at q_6
      have U13:=ca4 U8 hs0 hth (ca3 htb hbh hdi)
      refine AW.e [.rd 0,.val,.rd 0,.val,.val,.rd 0,.val,.val,.ext,.val,.val,.val,.fl,.wr,.val] fol U13 q_6 ?_
      apply hK;clear hK
      have q_7:=Qa4 ⟨t9,(i9:Int),Je4 r t9,Jj2 r (atM (mv i9) r.part) t9⟩ (Jf0 r mv (some (u9,j9)))
      rw [show decide (HT.i ⟨t9,(i9:Int),Je4 r t9,Jj2 r (atM (mv i9) r.part) t9⟩ < (Jf0 r mv (some (u9,j9))).i)=false from hdi] at q_7
      refine AW.c 2 U13 (q_7 _ hg hg2) ?_
      apply AW.x rfl
      apply AW.z
      apply Ja6
      apply hK;clear hK
      refine AW.g U13 Z0 ?_
      apply Jc1
      have hwi:IntKind.i64.wrap ((i:Int)+1)=(i:Int)+1:=wi (by omega)
      refine ⟨i+1,by omega,by omega,?_⟩
      try simp only [Jb2,Ja3,push_cast,simprocAttr,U13,hwi,hstep]
      exact Weak.to (extra:=_) (by simp only [KS,simprocAttr,hwi,hstep]) (by first|rfl|(simp only [List.append_assoc,List.cons_append,List.nil_append];rfl)) (by first|rfl|(simp [AV.below,CV.below];done)|(simp [AV.below,CV.below];omega)) (by exact MWf.app (hwf.grow (by simp)) (Ja0 (by simp [CV.below];omega) (Ja0 rfl (Ja0 rfl (Ja0 rfl (Ja0 (Jg6 _ _) (Ja0 (by simp [CV.below]) (Ja0 rfl Jb8))))))))
     have hth:htC (Ju1 r (atM (mv i9) r.part) (some t9)).1=[.int .i64 t9,.int .i64 0,.int .i64 (Je4 r t9 0),.int .i64 (Je4 r t9 1),.int .i64 (Je4 r t9 2),.int .i64 (Jj2 r (atM (mv i9) r.part) t9 0),.int .i64 (Jj2 r (atM (mv i9) r.part) t9 1),.int .i64 (Jj2 r (atM (mv i9) r.part) t9 2)]:=rfl
     have htb:(Ju1 r (atM (mv i9) r.part) (some t9)).2=true:=rfl
     have hbh:htC (Jf0 r mv (some (t9,i9)))=[.int .i64 t9,.int .i64 (i9:Int),.int .i64 (Je4 r t9 0),.int .i64 (Je4 r t9 1),.int .i64 (Je4 r t9 2),.int .i64 (Jj2 r (atM (mv i9) r.part) t9 0),.int .i64 (Jj2 r (atM (mv i9) r.part) t9 1),.int .i64 (Jj2 r (atM (mv i9) r.part) t9 2)]:=rfl
     have ho9:Jr2 r (atM (mv i9) r.part) near (Jo4 far bi)=some t9:=ho
     have q_8:=Kp4 r (mv i9) near (Jo4 far bi)
     rw [ho9,hs0] at q_8
     have U14:=ca4 U8 hs0 hth (ca2 htb hbh)
     refine AW.e [.rd 0,.val,.rd 0,.val,.val,.rd 0,.val,.val,.ext,.val,.val,.val,.fl,.wr,.val] fol U14 q_8 ?_
     apply hK;clear hK
     refine AW.c 2 U14 (Vc1 ⟨t9,(i9:Int),Je4 r t9,Jj2 r (atM (mv i9) r.part) t9⟩ (Jf0 r mv (some (u9,j9))) _ hg hg2) ?_
     apply AW.x rfl
     apply AW.z
     apply Ja6
     apply hK;clear hK
     refine AW.g U14 Z0 ?_
     apply Jc1
     have hwi:IntKind.i64.wrap ((i:Int)+1)=(i:Int)+1:=wi (by omega)
     refine ⟨i+1,by omega,by omega,?_⟩
     try simp only [Jb2,Ja3,push_cast,simprocAttr,U14,hwi,hstep]
     exact Weak.to (extra:=_) (by simp only [KS,simprocAttr,hwi,hstep]) (by first|rfl|(simp only [List.append_assoc,List.cons_append,List.nil_append];rfl)) (by first|rfl|(simp [AV.below,CV.below];done)|(simp [AV.below,CV.below];omega)) (by exact MWf.app (hwf.grow (by simp)) (Ja0 (by simp [CV.below];omega) (Ja0 rfl (Ja0 rfl (Ja0 rfl (Ja0 (Jg6 _ _) (Ja0 (by simp [CV.below]) (Ja0 rfl Jb8))))))))
    have hin:i=w9:=by have:=of_decide_eq_false h87;omega
    rw [hin]
    apply AW.v
    apply Jb0
    clear hK
    apply Jb0
    apply Ja5
    apply Ja6
    apply hK;clear hK
    rcases stk with _|⟨x8,stk8⟩
    ·have hNx:=hfi.pop0 (ver':=ver) w1 (by show 0<((TR.leaf at',a,c):TR × Nat × Nat).1.size+0;omega) (fun f=>by rw [hw9];exact Ky7 hm2)
     have hmu:muF ⟨none,[],(Jp8 (Hq r mv near far) o a b w9),ver,cnt⟩ < muF ⟨some ((TR.leaf at',a,c):TR × Nat × Nat),[],b,ver,cnt⟩:=by show 0<((TR.leaf at',a,c):TR × Nat × Nat).1.size+0;omega
     refine AW.rg ?_
     simp only [push_cast,simprocAttr,U7]
     refine CThen.by (Qy4 (m.length+5) (m.length+4) ver 0 (cnt:Int) [] _ (by (simp only [push_cast,simprocAttr])<;>rfl) (by (simp only [push_cast,simprocAttr])<;>rfl) (by omega) rfl) ?_
     simp only [push_cast,simprocAttr,U7]
     apply Jc1
     refine ⟨_,hNx,hmu,?_⟩
     try simp only [Jb2,Ja3,push_cast,simprocAttr,U7,Option.isSome_none,Option.isSome_some,qR,Int.natCast_add,Int.natCast_one,List.length_cons,List.length_nil]
     exact Weak.to (extra:=_) (by simp only [KS,simprocAttr,Option.isSome_none,Option.isSome_some,qR,Int.natCast_add,Int.natCast_one,List.length_cons,List.length_nil]) (by first|rfl|(simp only [List.append_assoc,List.cons_append,List.nil_append];rfl)) (by first|rfl|(simp [AV.below,CV.below];done)|(simp [AV.below,CV.below];omega)) (by exact MWf.app (hwf.grow (by simp)) (Ja0 (by simp [CV.below];omega) (Ja0 rfl (Ja0 rfl (Ja0 rfl (Ja0 (Jg6 _ _) (Ja0 (by simp [CV.below]) Jb8)))))))
    have hNx:=hfi.pop1 (ver':=ver) w1 (by show x8.1.size+Jz1 stk8<((TR.leaf at',a,c):TR × Nat × Nat).1.size+(x8.1.size+Jz1 stk8);omega) (fun f=>by rw [hw9];exact Ky7 hm2)
    have hmu:muF ⟨some x8,stk8,(Jp8 (Hq r mv near far) o a b w9),ver,cnt+1⟩ < muF ⟨some ((TR.leaf at',a,c):TR × Nat × Nat),x8::stk8,b,ver,cnt⟩:=by show x8.1.size+Jz1 stk8<((TR.leaf at',a,c):TR × Nat × Nat).1.size+(x8.1.size+Jz1 stk8);omega
    have hl8:(x8::stk8).length=(rtL stk8).length+1:=by rw [Kd8];rfl
    have hl9:=Kd8 stk8
    have hrc:=Ks5 x8 stk8
    have hl7:stk8.length<=1000000:=by have:(x8::stk8).length<=_:=hsl;simp only [List.length_cons] at this;omega
    refine AW.rg ?_
    simp only [push_cast,simprocAttr,U7,hl8,hrc,hl9]
    refine CThen.by (Kt4 (m.length+5) (m.length+4) ver (cnt:Int) (rtL stk8) x8.1.root _ (by (simp only [push_cast,simprocAttr,hl9])<;>rfl) (by (simp only [push_cast,simprocAttr,hrc])<;>rfl) (by omega) (by omega) (by omega)) ?_
    simp only [push_cast,simprocAttr,U7,hl8,hrc,hl9]
    apply Jc1
    refine ⟨_,hNx,hmu,?_⟩
    try simp only [Jb2,Ja3,push_cast,simprocAttr,U7,hl8,hrc,hl9,Option.isSome_none,Option.isSome_some,qR,Int.natCast_add,Int.natCast_one,List.length_cons,List.length_nil]
    exact Weak.to (extra:=_) (by simp only [KS,simprocAttr,Option.isSome_none,Option.isSome_some,qR,Int.natCast_add,Int.natCast_one,List.length_cons,List.length_nil]) (by first|rfl|(simp only [List.append_assoc,List.cons_append,List.nil_append];rfl)) (by first|rfl|(simp [AV.below,CV.below];done)|(simp [AV.below,CV.below];omega)) (by exact MWf.app (hwf.grow (by simp)) (Ja0 (by simp [CV.below];omega) (Ja0 rfl (Ja0 rfl (Ja0 rfl (Ja0 (Jg6 _ _) (Ja0 (by simp [CV.below]) Jb8)))))))
   have hm2:Jt6 (atP (Jx8 nds at').p r.part) (Jz2 r near (Jo4 far b)):=by simpa [hnd,TR.root] using hme
   have hnc:¬(0:Int)<nd.count:=by rw [hnd];show ¬0<(Jx8 nds at').count;omega
   have hnl9:nd.left=(l.root:Int):=by rw [hnd];exact k2
   have hnr9:nd.right=(r'.root:Int):=by rw [hnd];exact k3
   have hsq:TR.size (.node at' l r')=l.size+r'.size+1:=rfl
   have q1:stk.length<=140737488355326:=by omega
   obtain ⟨l9,hl99⟩:∃ l9,l9=rtL stk++[r'.root]:=⟨_,rfl⟩
   have q2:(stk.length+2)*8<=140737488355328:=by omega
   have hap:iC (rtL stk)++[.int .i64 (r'.root:Int),.int .i64 (l.root:Int)]=iC (l9++[l.root]):=by rw [hl99,<-Jw8,<-Jw8,List.append_assoc];rfl
   have hgl:(iC (rtL stk)).length=stk.length:=by rw [Jg5,Kd8]
   have hl8:l9.length=stk.length+1:=by rw [hl99,List.length_append,Kd8];rfl
   subst km
   have hrc:rtL ((r',a+Qm3 (Jx8 nds) l,c)::stk)=l9:=by rw [hl99];exact Ks5 _ _
   have hNx:=hfi.pop1 (ver':=ver+1) w9 (by show l.size+(r'.size+Jz1 stk)<(l.size+r'.size+1)+Jz1 stk;omega) (fun f=>Qz5 hm2)
   have hmu:muF ⟨some (l,a,a+Qm3 (Jx8 nds) l),(r',a+Qm3 (Jx8 nds) l,c)::stk,b,ver+1,cnt+1⟩ < muF ⟨some (.node at' l r',a,c),stk,b,ver,cnt⟩:=by show l.size+(r'.size+Jz1 stk)<(l.size+r'.size+1)+Jz1 stk;omega
   have U15:=ca4 U6 hnc hnl9 (ca4 hnr9 q1 q2 (ca4 hgl hap hl8 hrc))
   refine AW.g U15 (Qi1 nd.p _ _ _ _ _) ?_
   apply hK;clear hK
   apply AW.y rfl
   refine AW.d [.val,.val,.val,.val,.rd 0,.val,.rd 0,.val,.rd 0,.ext,.wr,.val,.val,.wr] fol U15 Z0 ?_
   apply AW.v
   apply Jb0
   clear hK
   apply Ja5
   apply hK;clear hK
   refine AW.rg ?_
   simp only [push_cast,simprocAttr,U15]
   refine CThen.by (Kt4 (m.length+5) (m.length+4) (ver+1) (cnt:Int) l9 l.root _ (by (simp only [push_cast,simprocAttr,hl8])<;>rfl) (by (simp only [push_cast,simprocAttr,hap])<;>rfl) (by omega) (by omega) (by omega)) ?_
   simp only [push_cast,simprocAttr,U15]
   apply Jc1
   refine ⟨_,hNx,hmu,?_⟩
   try simp only [Jb2,Ja3,push_cast,simprocAttr,U15,Option.isSome_none,Option.isSome_some,qR,Int.natCast_add,Int.natCast_one,List.length_cons,List.length_nil]
   exact Weak.to (extra:=_) (by simp only [KS,simprocAttr,Option.isSome_none,Option.isSome_some,qR,Int.natCast_add,Int.natCast_one,List.length_cons,List.length_nil]) (by first|rfl|(simp only [List.append_assoc,List.cons_append,List.nil_append];rfl)) (by first|rfl|(simp [AV.below,CV.below];done)|(simp [AV.below,CV.below];omega)) (by exact MWf.app (hwf.grow (by simp)) (Ja0 (by simp [CV.below];omega) (Ja0 rfl (Ja0 rfl (Ja0 rfl (Ja0 (Jg6 _ _) (Ja0 (by simp [CV.below]) Jb8)))))))
  have hmb:(false=true)↔Jt6 (atP nd.p r.part) (Jz2 r near (Jo4 far b)):=by rw [hnd];exact ⟨fun h=>(nomatch h),fun h=>(hme h).elim⟩
  refine AW.e [.val,.rd 0,.val,.rd 0,.ext,.rd 0,.val,.val,.ext,.ext,.val] fol U6 (ca3 (Xn0 nd.p r.part) (Kx5 r near (Jo4 far b)) (Qz3 (atP nd.p r.part) (Jz2 r near (Jo4 far b)) _ false hmb)) ?_
  apply hK;clear hK
  apply AW.y rfl
  apply AW.v
  apply Jb0
  clear hK
  apply Ja5
  apply hK;clear hK
  rcases stk with _|⟨x8,stk8⟩
  ·have hNx:=hfi.pop0 (ver':=ver) (w0.missN hme) (by show 0<e.1.size+0;omega) (fun f=>Ky6 hme)
   have hmu:muF ⟨none,[],b,ver,cnt⟩ < muF ⟨some e,[],b,ver,cnt⟩:=by show 0<e.1.size+0;omega
   refine AW.rg ?_
   simp only [push_cast,simprocAttr,U6]
   refine CThen.by (Qy4 (m.length+5) (m.length+4) ver 0 (cnt:Int) [] _ (by (simp only [push_cast,simprocAttr])<;>rfl) (by (simp only [push_cast,simprocAttr])<;>rfl) (by omega) rfl) ?_
   simp only [push_cast,simprocAttr,U6]
   apply Jc1
   refine ⟨_,hNx,hmu,?_⟩
   try simp only [Jb2,Ja3,push_cast,simprocAttr,U6,Option.isSome_none,Option.isSome_some,qR,Int.natCast_add,Int.natCast_one,List.length_cons,List.length_nil]
   exact Weak.to (extra:=_) (by simp only [KS,simprocAttr,Option.isSome_none,Option.isSome_some,qR,Int.natCast_add,Int.natCast_one,List.length_cons,List.length_nil]) (by first|rfl|(simp only [List.append_assoc,List.cons_append,List.nil_append];rfl)) (by first|rfl|(simp [AV.below,CV.below];done)|(simp [AV.below,CV.below];omega)) (by exact MWf.app (hwf.grow (by simp)) (Ja0 (by simp [CV.below];omega) (Ja0 rfl (Ja0 rfl (Ja0 rfl (Ja0 (Jg6 _ _) (Ja0 (by simp [CV.below]) Jb8)))))))
  have hNx:=hfi.pop1 (ver':=ver) (w0.missN hme) (by show x8.1.size+Jz1 stk8<e.1.size+(x8.1.size+Jz1 stk8);omega) (fun f=>Ky6 hme)
  have hmu:muF ⟨some x8,stk8,b,ver,cnt+1⟩ < muF ⟨some e,x8::stk8,b,ver,cnt⟩:=by show x8.1.size+Jz1 stk8<e.1.size+(x8.1.size+Jz1 stk8);omega
  have hl8:(x8::stk8).length=(rtL stk8).length+1:=by rw [Kd8];rfl
  have hl9:=Kd8 stk8
  have hrc:=Ks5 x8 stk8
  have hl7:stk8.length<=1000000:=by have:(x8::stk8).length<=_:=hsl;simp only [List.length_cons] at this;omega
  refine AW.rg ?_
  simp only [push_cast,simprocAttr,U6,hl8,hrc,hl9]
  refine CThen.by (Kt4 (m.length+5) (m.length+4) ver (cnt:Int) (rtL stk8) x8.1.root _ (by (simp only [push_cast,simprocAttr,hl9])<;>rfl) (by (simp only [push_cast,simprocAttr,hrc])<;>rfl) (by omega) (by omega) (by omega)) ?_
  simp only [push_cast,simprocAttr,U6,hl8,hrc,hl9]
  apply Jc1
  refine ⟨_,hNx,hmu,?_⟩
  try simp only [Jb2,Ja3,push_cast,simprocAttr,U6,hl8,hrc,hl9,Option.isSome_none,Option.isSome_some,qR,Int.natCast_add,Int.natCast_one,List.length_cons,List.length_nil]
  exact Weak.to (extra:=_) (by simp only [KS,simprocAttr,Option.isSome_none,Option.isSome_some,qR,Int.natCast_add,Int.natCast_one,List.length_cons,List.length_nil]) (by first|rfl|(simp only [List.append_assoc,List.cons_append,List.nil_append];rfl)) (by first|rfl|(simp [AV.below,CV.below];done)|(simp [AV.below,CV.below];omega)) (by exact MWf.app (hwf.grow (by simp)) (Ja0 (by simp [CV.below];omega) (Ja0 rfl (Ja0 rfl (Ja0 rfl (Ja0 (Jg6 _ _) (Ja0 (by simp [CV.below]) Jb8)))))))
 have hsn:sq=none:=by cases sq with
   | none=>rfl
   | some _=>cases h35
 subst hsn
 have hstk:stk=[]:=hfi.z rfl
 subst hstk
 have hbe:b=Jg9 (Hq r mv near far) n:=hfi.w.all hop
 have hTe:cnt=T:=by
   obtain ⟨f,_,h2⟩:=hfi.k
   have h2':cnt+Jy6 nds o r mv near far f [] b=T+0:=h2
   rw [Vk0] at h2';omega
 rw [hbe,hTe]
 apply AW.v
 apply Jb0
 clear hK
 apply Jb0
 apply Ja5
 apply hK;clear hK
 refine AW.d [.rd 0,.val,.val,.val,.val,.rw 0,.wr,.val,.val] fol U5 Z0 ?_
 exact AW.ret (hQ _ _ _ (RetP.z hwf Z0))
theorem Vm8 (r:RY)(mv:Nat->MV)(sb sv n:Nat)(near far:Int)(m:Ja1)(h0:n=0):Ctr Tryz.prog 50 [.agg [.nils,.nils,.sl sb sv 0 n],.agg (ryC r),.one (.int .i64 near),.one (.int .i64 far)] m (.tup [(true,htC (Jf0 r mv (Jg9 (Hq r mv near far) n))),(false,[.bool (Jg9 (Hq r mv near far) n).isSome]),(false,[.int .i64 ((0:Nat):Int)])]) m:=by
 refine Ctr.en Tryz.func50 [.cell 8 165,.tmp 9,.tmp 10] 124 fun hwf Q hQ=>?_
 subst h0
 have hv:htC (Jf0 r mv (Jg9 (Hq r mv near far) 0))=[.int .i64 0,.int .i64 0,.int .i64 0,.int .i64 0,.int .i64 0,.int .i64 0,.int .i64 0,.int .i64 0]:=rfl
 have hv2:(Jg9 (Hq r mv near far) 0).isSome=false:=rfl
 rw [hv,hv2] at hQ
 have U16:=ca2 @Jh2 @Ja4
 refine AW.c 3 U16 Z0 ?_
 refine AW.q fun K hK=>?_
 refine AW.c 1 U16 Z0 ?_
 apply AW.y rfl
 refine AW.c 1 U16 Z0 ?_
 exact AW.ret (hQ _ _ _ (RetP.z hwf Z0))
theorem Xd6 (mv:Nat->MV)(nb nv ob ov sb sv n:Nat)(m:Ja1)(h0:0<n)(hn:n<=400000)(hnb:∃ k ez,m[nb]?=some ⟨k,255,nv,ez,ndL (Ji5 (prM mv) n).2⟩)(hob:∃ k ez,m[ob]?=some ⟨k,3,ov,ez,iC (Ji5 (prM mv) n).1⟩)(hsb:∃ k ez,m[sb]?=some ⟨k,204,sv,ez,Jb6 n (mF mv)⟩):∃ TF:RY->Int->Int->Nat,∀ (L:Ja1) (r:RY) (near far:Int),Ctr Tryz.prog 50 [.agg [.sl nb nv 0 (Ji5 (prM mv) n).2.length,.sl ob ov 0 n,.sl sb sv 0 n],.agg (ryC r),.one (.int .i64 near),.one (.int .i64 far)] (m++L) (.tup [(true,htC (Jf0 r mv (Jg9 (Hq r mv near far) n))),(false,[.bool (Jg9 (Hq r mv near far) n).isSome]),(false,[.int .i64 ((TF r near far:Nat):Int)])]) (m++L):=by
 obtain ⟨t,h1,h2,h3,h4,h5,h6⟩:=Ve9 (prM mv) h0
 refine ⟨fun r near far=>Jy6 (Ji5 (prM mv) n).2 (Ji5 (prM mv) n).1 r mv near far (2*n) [(t,0,n)] none,fun L r near far=>?_⟩
 exact Xd5 r mv nb nv ob ov sb sv n _ t _ _ near far (m++L) (by obtain ⟨k,e,q⟩:=hnb;exact ⟨k,e,Ja8 q L⟩) (by obtain ⟨k,e,q⟩:=hob;exact ⟨k,e,Ja8 q L⟩) (by obtain ⟨k,e,q⟩:=hsb;exact ⟨k,e,Ja8 q L⟩) hn (by omega) h1 h2 h3 rfl
def Ju4 (u v:Int):Int:=if 65536<Jb9 u+Jb9 v then 65536 - Jb9 u else Jb9 u
def Jv6 (u v:Int):Int:=if 65536<Jb9 u+Jb9 v then 65536 - Jb9 v else Jb9 v
noncomputable def Kd5 (P:PL)(u v:Int):V :=
 if P.kind=0 then Je0 (P.P 0) (Je1 (Jj8 u v) P.r)
 else Je0 (Je0 (Je0 z0V (P.P 0)) (Je1 (Jb3 (P.P 1) (P.P 0)) (Ju4 u v))) (Je1 (Jb3 (P.P 2) (P.P 0)) (Jv6 u v))
structure TN where
 (d l:V) (g s:Bool)
def tnC (t:TN):List CV:=c3C t.d++(c3C t.l++[.bool t.g,.bool t.s])
def tn0:TN:=⟨fun _=>0,fun _=>0,false,false⟩
noncomputable def Jk2 (k ro:Int)(d n:V)(u v:Int):V:=if k=0 then Jk1 n u v else if k=1 then Jb7 (Kg7 d n) else Jb7 (Je0 (Kg7 d n) (Je1 (Jk1 n u v) ro))
noncomputable def Jq3 (k:Int)(c:V)(ro:Int)(d n:V)(u v:Int):TN :=
 if k≠0/\k≠1/\k≠2 then tn0 else if Je8 (Jk2 k ro d n u v) n<=0 then tn0 else ⟨Jk2 k ro d n u v,c,true,!(k ==0)⟩
structure KY where
 (sd fr px sm:Int)
noncomputable def KY.u (k:KY)(i:Int):Int:=Qd6 k.sd k.fr k.px k.sm i
def kyC (k:KY):List CV:=Jm8 k.sd k.fr k.px k.sm
structure WD where
 (mv:Nat->MV) (n:Nat) (kd:Nat->Int) (cl:Nat->V) (ro:Nat->Int) (lm:List Nat) (sky:V) (dp:Nat)
noncomputable def Jr3 (w:WD)(r:RY)(near far:Int):Option (Int × Nat):=Jg9 (Hq r w.mv near far) w.n
noncomputable def Ky9 (w:WD)(k:KY)(d:Int):Nat:=w.lm.getD (Jo3 k.sd k.fr k.px k.sm d (w.lm.length:Int)).toNat 0
noncomputable def Ky8 (w:WD)(k:KY)(d:Int)(at':Int):V:=Kd5 (atM (w.mv (Ky9 w k d)) at') (k.u (d+1)) (k.u (d+2))
noncomputable def Xc5 (w:WD)(k:KY)(d:Int)(h:HT)(at':Int):Option (Int × Nat):=Jr3 w ⟨h.p,Jb7 (Jb3 (Ky8 w k d at') h.p),at'⟩ 1024 (Ka7 (Jb3 (Ky8 w k d at') h.p))
def Xo3 (i:Nat):Option (Int × Nat)->Bool
 | none=>false
 | some (_,j)=>!(j ==i)
noncomputable def Jm3 (w:WD)(k:KY)(d:Int)(h:HT)(hi:Nat)(at':Int):V :=
 if w.lm=[] then z0V else if Ky9 w k d=hi then z0V else if Jr0 h.p h.n (Ky8 w k d at')=0 then z0V else
  if Xo3 (Ky9 w k d) (Xc5 w k d h at')=true then z0V else Je1 (Je2 (w.cl hi) (w.cl (Ky9 w k d))) (Jd8 (Jr0 h.p h.n (Ky8 w k d at')) (ofI (w.lm.length:Int)))
structure SN where
 (li:V) (dep:Int) (no po ba:V) (sh pt:Int)
def snC (s:SN):List CV:=c3C s.li++(.int .i64 s.dep::(c3C s.no++(c3C s.po++(c3C s.ba++[.int .i64 s.sh,.int .i64 s.pt]))))
structure TS where
 (s:SN) (w:V) (sharp:Bool) (r:RY)
noncomputable def Kd2 (w:WD)(r:RY)(t:Int)(i:Nat):HT:=⟨t,(i:Int),Je4 r t,Jj2 r (atM (w.mv i) r.part) t⟩
noncomputable def Jy5 (w:WD)(b:Nat)(s:SN)(h:HT)(i:Nat):SN:=if b=0 then ⟨s.li,h.t,h.n,h.p,w.cl i,(i:Int),s.pt⟩ else s
def SN.add (s:SN)(l:V):SN:=⟨Je0 s.li l,s.dep,s.no,s.po,s.ba,s.sh,s.pt⟩
noncomputable def liS (w:WD)(k:KY)(d:Int)(s:TS)(sn:SN)(h:HT)(i:Nat):SN:=if w.kd i=0 then sn.add (Je2 s.w (Jm3 w k d h i sn.pt)) else sn
noncomputable def Ka8 (w:WD)(k:KY)(d:Int)(s:TS)(h:HT)(i:Nat):TN:=Jq3 (w.kd i) (w.cl i) (w.ro i) s.r.d h.n (k.u (d+3)) (k.u (d+4))
noncomputable def Ju2 (w:WD)(k:KY)(b:Nat)(d:Int)(s:TS):SN ⊕ TS :=
 match Jr3 w s.r 1024 2147483648 with
 | none=>.inl (s.s.add (Je2 s.w w.sky))
 | some (t,i) =>
  if w.kd i=3 then .inl (if s.sharp=true then (Jy5 w b s.s (Kd2 w s.r t i) i).add (Je2 s.w (w.cl i)) else Jy5 w b s.s (Kd2 w s.r t i) i)
  else if (Ka8 w k d s (Kd2 w s.r t i) i).g=false then .inl (liS w k d s (Jy5 w b s.s (Kd2 w s.r t i) i) (Kd2 w s.r t i) i)
  else if b=0 then .inr ⟨liS w k d s (Jy5 w b s.s (Kd2 w s.r t i) i) (Kd2 w s.r t i) i,Je2 s.w (Ka8 w k d s (Kd2 w s.r t i) i).l,(Ka8 w k d s (Kd2 w s.r t i) i).s,⟨(Kd2 w s.r t i).p,(Ka8 w k d s (Kd2 w s.r t i) i).d,s.s.pt⟩⟩
  else if Kt6 (Je2 s.w (Ka8 w k d s (Kd2 w s.r t i) i).l)<=Jb9 (k.u (d+5)) then .inl (liS w k d s (Jy5 w b s.s (Kd2 w s.r t i) i) (Kd2 w s.r t i) i)
  else .inr ⟨liS w k d s (Jy5 w b s.s (Kd2 w s.r t i) i) (Kd2 w s.r t i) i,Jn1 (Je2 s.w (Ka8 w k d s (Kd2 w s.r t i) i).l) (k.u (d+5)),(Ka8 w k d s (Kd2 w s.r t i) i).s,⟨(Kd2 w s.r t i).p,(Ka8 w k d s (Kd2 w s.r t i) i).d,s.s.pt⟩⟩
noncomputable def Jv3 (w:WD)(k:KY):Nat->Nat->TS->SN
 | 0,_,s=>s.s
 | f+1,b,s=>match Ju2 w k b (3+8*(b:Int)) s with
  | .inl x=>x
  | .inr s'=>Jv3 w k f (b+1) s'
theorem Kv6 {w:WD}{k:KY}{b:Nat}{s:TS}{n:Nat}(h:n<=b):Jv3 w k (n - b) b s=s.s:=by
 rw [show n - b=0 by omega];rfl
theorem Ji6 {w:WD}{k:KY}{b:Nat}{s:TS}{n:Nat}{x:SN}(hb:b<n)(h:Ju2 w k b (3+8*(b:Int)) s=.inl x):Jv3 w k (n - b) b s=x:=by
 rw [show n - b=(n - (b+1))+1 by omega]
 show (match Ju2 w k b (3+8*(b:Int)) s with | .inl x=>x | .inr s'=>_)=x
 rw [h]
theorem Kb0 {w:WD}{k:KY}{b:Nat}{s s':TS}{n:Nat}(hb:b<n)(h:Ju2 w k b (3+8*(b:Int)) s=.inr s'):Jv3 w k (n - b) b s=Jv3 w k (n - (b+1)) (b+1) s':=by
 rw [show n - b=(n - (b+1))+1 by omega]
 show (match Ju2 w k b (3+8*(b:Int)) s with | .inl x=>x | .inr s'=>_)=_
 rw [h]
section
variable {w:WD}{k:KY}{b:Nat}{d:Int}{s:TS}{t:Int}{i:Nat}{h:HT}{sn1 sn2:SN}{T:TN}
theorem Ki1 (hF:Jr3 w s.r 1024 2147483648=none):Ju2 w k b d s=.inl (s.s.add (Je2 s.w w.sky)):=by unfold Ju2;rw [hF]
theorem Kv9 (hF:Jr3 w s.r 1024 2147483648=some (t,i))(hh:Kd2 w s.r t i=h)(h1:Jy5 w b s.s h i=sn1)(h3:w.kd i=3)(hs:s.sharp=true):Ju2 w k b d s=.inl (sn1.add (Je2 s.w (w.cl i))):=by
 subst hh h1
 unfold Ju2;rw [hF];dsimp only;rw [if_pos h3,if_pos hs]
theorem Kw0 (hF:Jr3 w s.r 1024 2147483648=some (t,i))(hh:Kd2 w s.r t i=h)(h1:Jy5 w b s.s h i=sn1)(h3:w.kd i=3)(hs:s.sharp=false):Ju2 w k b d s=.inl sn1:=by
 subst hh h1
 unfold Ju2;rw [hF];dsimp only;rw [if_pos h3,if_neg (by rw [hs];decide)]
theorem Kv8 (hF:Jr3 w s.r 1024 2147483648=some (t,i))(hh:Kd2 w s.r t i=h)(h1:Jy5 w b s.s h i=sn1)(h2:liS w k d s sn1 h i=sn2)(hT:Ka8 w k d s h i=T)(h3:¬w.kd i=3)(hg:T.g=false):Ju2 w k b d s=.inl sn2:=by
 subst hh h1 h2 hT
 unfold Ju2;rw [hF];dsimp only;rw [if_neg h3,if_pos hg]
theorem Qf4 (hF:Jr3 w s.r 1024 2147483648=some (t,i))(hh:Kd2 w s.r t i=h)(h1:Jy5 w b s.s h i=sn1)(h2:liS w k d s sn1 h i=sn2)(hT:Ka8 w k d s h i=T)(h3:¬w.kd i=3)(hg:T.g=true)(hb:b=0):Ju2 w k b d s=.inr ⟨sn2,Je2 s.w T.l,T.s,⟨h.p,T.d,s.s.pt⟩⟩:=by
 subst hh h1 h2 hT
 unfold Ju2;rw [hF];dsimp only;rw [if_neg h3,if_neg (by rw [hg];decide),if_pos hb]
theorem Kw1 (hF:Jr3 w s.r 1024 2147483648=some (t,i))(hh:Kd2 w s.r t i=h)(h1:Jy5 w b s.s h i=sn1)(h2:liS w k d s sn1 h i=sn2)(hT:Ka8 w k d s h i=T)(h3:¬w.kd i=3)(hg:T.g=true)(hb:¬b=0)(hl:Kt6 (Je2 s.w T.l)<=Jb9 (k.u (d+5))):Ju2 w k b d s=.inl sn2:=by
 subst hh h1 h2 hT
 unfold Ju2;rw [hF];dsimp only;rw [if_neg h3,if_neg (by rw [hg];decide),if_neg hb,if_pos hl]
theorem Qt3 (hF:Jr3 w s.r 1024 2147483648=some (t,i))(hh:Kd2 w s.r t i=h)(h1:Jy5 w b s.s h i=sn1)(h2:liS w k d s sn1 h i=sn2)(hT:Ka8 w k d s h i=T)(h3:¬w.kd i=3)(hg:T.g=true)(hb:¬b=0)(hl:¬Kt6 (Je2 s.w T.l)<=Jb9 (k.u (d+5))):Ju2 w k b d s=.inr ⟨sn2,Jn1 (Je2 s.w T.l) (k.u (d+5)),T.s,⟨h.p,T.d,s.s.pt⟩⟩:=by
 subst hh h1 h2 hT
 unfold Ju2;rw [hF];dsimp only;rw [if_neg h3,if_neg (by rw [hg];decide),if_neg hb,if_neg hl]
end
def Jq7 (s:SC):Nat->List Nat
 | 0=>[]
 | i+1=>if glB s i then Jq7 s i++[i] else Jq7 s i
theorem Jw7 (s:SC):∀ n,iL (Jm1 (glB s) n)=iC (Jq7 s n)
 | 0=>rfl
 | n+1=>by
  have ih:=Jw7 s n
  show iL (if glB s n then Jm1 (glB s) n++[(n:Int)] else Jm1 (glB s) n)=iC (if glB s n then Jq7 s n++[n] else Jq7 s n)
  split
  ·rw [<-Jw8,<-ih];unfold iL;rw [List.map_append];rfl
  exact ih
theorem Kc5 (s:SC)(n:Nat):(Jm1 (glB s) n).length=(Jq7 s n).length:=by
 have h:=congrArg List.length (Jw7 s n)
 rw [Jg5] at h
 have:(iL (Jm1 (glB s) n)).length=(Jm1 (glB s) n).length:=by unfold iL;rw [List.length_map]
 omega
theorem Kt9 (s:SC):∀ (n:Nat) (i:Nat),i ∈ Jq7 s n->i<n
 | 0,_,h=>by cases h
 | n+1,i,h=>by
  have ih:=Kt9 s n i
  have h':i ∈ (if glB s n then Jq7 s n++[n] else Jq7 s n):=h
  split at h'
  ·rcases List.mem_append.1 h' with h'|h'
   ·have:=ih h';omega
   have:i=n:=by simpa using h'
   omega
  have:=ih h';omega
noncomputable def Jd2 (s:SC)(f:Int):WD:=⟨mvS s f,s.nx,fun i=>s.pk (s.xp i).toNat,fun i=>s.pc (s.xp i).toNat,fun i=>s.pr (s.xp i).toNat,Jq7 s s.nx,s.sk,s.dp.toNat⟩
def Qh8 (s:SC)(f x y sm:Int):KY:=⟨s.sd,f,y*s.w+x,sm⟩
def Kw3 (pt:Int):SN:=⟨fun _=>0,2147483648,fun _=>0,fun _=>0,fun _=>0,-1,pt⟩
theorem Xj5 (P:PL)(u v:Int)(m:Ja1)(hk:P.kind=0):Ctr Tryz.prog 131 [.agg (plC P),.one (.int .i64 u),.one (.int .i64 v)] m (.agg (c3C (Kd5 P u v))) m:=by
 refine Ctr.en Tryz.func131 [.cell 6 59] 55 fun hwf Q hQ=>?_
 have hv:Kd5 P u v=Je0 (P.P 0) (Je1 (Jj8 u v) P.r):=if_pos hk
 rw [hv] at hQ
 have hkb:(P.kind ==0)=true:=beq_iff_eq.2 hk
 have U1:=ca3 @Jq5 @Ja4 hkb
 refine AW.c 1 U1 Z0 ?_
 refine AW.q fun K hK=>?_
 refine AW.c 1 U1 Z0 ?_
 apply AW.y rfl
 refine AW.d [.val,.val,.rd 0,.val,.val,.ext,.val,.rd 0,.ext,.ext,.wr] fol U1 (ca3 (Qc9 u v) (Ju3 (Jj8 u v) P.r) (Qe4 (P.P 0) (Je1 (Jj8 u v) P.r))) ?_
 exact AW.ret (hQ _ _ _ (RetP.z hwf Z0))
theorem Xj6 (P:PL)(u v:Int)(m:Ja1)(hk:¬P.kind=0):Ctr Tryz.prog 131 [.agg (plC P),.one (.int .i64 u),.one (.int .i64 v)] m (.agg (c3C (Kd5 P u v))) m:=by
 refine Ctr.en Tryz.func131 [.cell 6 59] 55 fun hwf Q hQ=>?_
 obtain ⟨D,hD⟩:∃ D,D=Je0 (Je0 (Je0 z0V (P.P 0)) (Je1 (Jb3 (P.P 1) (P.P 0)) (Ju4 u v))) (Je1 (Jb3 (P.P 2) (P.P 0)) (Jv6 u v)):=⟨_,rfl⟩
 have hv:Kd5 P u v=D:=by rw [hD];exact if_neg hk
 rw [hv] at hQ
 have hkb:(P.kind ==0)=false:=by simpa using hk
 have b1:=Js5 u
 have b2:=Js5 v
 have w0:IntKind.i64.wrap (Jb9 u+Jb9 v)=Jb9 u+Jb9 v:=wi (by omega)
 have w1:IntKind.i64.wrap (65536 - Jb9 u)=65536 - Jb9 u:=wi (by omega)
 have w2:IntKind.i64.wrap (65536 - Jb9 v)=65536 - Jb9 v:=wi (by omega)
 have U2:=ca4 @Jq5 @Ja4 hkb (ca3 w0 w1 w2)
 refine AW.c 1 U2 Z0 ?_
 refine AW.q fun K hK=>?_
 refine AW.c 1 U2 Z0 ?_
 apply AW.x rfl
 apply AW.z
 apply hK;clear hK
 refine AW.c 1 U2 Jy8 ?_
 refine AW.q fun K hK=>?_
 refine AW.c 1 U2 Z0 ?_
 refine AW.condJ rfl [3,6] [(1,.one (.int .i64 (Ju4 u v))),(2,.one (.int .i64 (Jv6 u v)))] [] (fun h27=>?_) (fun h27=>?_) ?_
 ·have hA:Ju4 u v=65536 - Jb9 u:=if_pos (of_decide_eq_true h27)
  have hB:Jv6 u v=65536 - Jb9 v:=if_pos (of_decide_eq_true h27)
  refine AW.g U2 Z0 ?_
  apply Jc1
  try simp only [Jb2,Ja3,push_cast,simprocAttr,U2,hA,hB]
  exact Weak.same (by simp only [KS,simprocAttr,hA,hB]) (by first|rfl|simp only [KS,simprocAttr,hA,hB])
 ·have hA:Ju4 u v=Jb9 u:=if_neg (of_decide_eq_false h27)
  have hB:Jv6 u v=Jb9 v:=if_neg (of_decide_eq_false h27)
  apply AW.z
  apply Jc1
  try simp only [Jb2,Ja3,push_cast,simprocAttr,U2,hA,hB]
  exact Weak.same (by simp only [KS,simprocAttr,hA,hB]) (by first|rfl|simp only [KS,simprocAttr,hA,hB])
 try simp only [Jb2,Ja3,push_cast,simprocAttr,U2]
 apply hK;clear hK
 refine AW.q fun K hK=>?_
 refine AW.draw [.val,.val,.rd 0,.val,.val,.rd 0,.val,.val,.rd 0,.ext,.val,.ext,.val,.val,.rd 0,.val,.val,.rd 0,.ext,.val,.ext,.ext,.ext,.wr] fol (by decide) (by kernel_rfl) ?_
 simp only [push_cast,simprocAttr,U2]
 refine DCall.z (Jk0 (P.P 1) (P.P 0) _) ?_
 simp only [push_cast,simprocAttr,U2]
 refine DCall.z (Ju3 (Jb3 (P.P 1) (P.P 0)) (Ju4 u v) _) ?_
 simp only [push_cast,simprocAttr,U2]
 refine DCall.z (Jk0 (P.P 2) (P.P 0) _) ?_
 simp only [push_cast,simprocAttr,U2]
 refine DCall.z (Ju3 (Jb3 (P.P 2) (P.P 0)) (Jv6 u v) _) ?_
 simp only [push_cast,simprocAttr,U2]
 refine DExt.by (by first|rfl|exact (List.append_nil _).symm|(simp only [List.append_assoc,List.cons_append,List.nil_append];rfl)) ?_
 simp only [push_cast,simprocAttr,U2]
 refine DCall.z ((by have h9:=fun M r9 q=>Qb2 r9 0 (P.P 0 0) (P.P 0 1) (P.P 0 2) ((Je1 (Jb3 (P.P 1) (P.P 0)) (Ju4 u v)) 0) ((Je1 (Jb3 (P.P 1) (P.P 0)) (Ju4 u v)) 1) ((Je1 (Jb3 (P.P 1) (P.P 0)) (Ju4 u v)) 2) ((Je1 (Jb3 (P.P 2) (P.P 0)) (Jv6 u v)) 0) ((Je1 (Jb3 (P.P 2) (P.P 0)) (Jv6 u v)) 1) ((Je1 (Jb3 (P.P 2) (P.P 0)) (Jv6 u v)) 2) M q;have e9:([.int .i64 (Jd6 (Jd6 (Jd6 0 (P.P 0 0)) ((Je1 (Jb3 (P.P 1) (P.P 0)) (Ju4 u v)) 0)) ((Je1 (Jb3 (P.P 2) (P.P 0)) (Jv6 u v)) 0)),.int .i64 (Jd6 (Jd6 (Jd6 0 (P.P 0 1)) ((Je1 (Jb3 (P.P 1) (P.P 0)) (Ju4 u v)) 1)) ((Je1 (Jb3 (P.P 2) (P.P 0)) (Jv6 u v)) 1)),.int .i64 (Jd6 (Jd6 (Jd6 0 (P.P 0 2)) ((Je1 (Jb3 (P.P 1) (P.P 0)) (Ju4 u v)) 2)) ((Je1 (Jb3 (P.P 2) (P.P 0)) (Jv6 u v)) 2))]:List CV)=c3C D:=(by rw [hD];rfl);rw [e9] at h9;exact h9 _ _ ⟨.grow,3,by simp only [push_cast,simprocAttr]⟩)) ?_
 simp only [push_cast,simprocAttr,U2]
 apply hK;clear hK
 exact AW.ret (hQ _ _ _ (RetP.z hwf Z0))
theorem Vw3 (P:PL)(u v:Int)(m:Ja1)(hk:P.kind=0):Ctr Tryz.prog 150 [.agg (plC P),.one (.int .i64 u),.one (.int .i64 v)] m (.agg (c3C (Kd5 P u v))) m:=by
 refine Ctr.en Tryz.func150 [.cell 6 54] 60 fun hwf Q hQ=>?_
 have hv:Kd5 P u v=Je0 (P.P 0) (Je1 (Jj8 u v) P.r):=if_pos hk
 rw [hv] at hQ
 have hkb:(P.kind ==0)=true:=beq_iff_eq.2 hk
 have U3:=ca3 @Jq5 @Ja4 hkb
 refine AW.c 1 U3 Z0 ?_
 refine AW.q fun K hK=>?_
 refine AW.c 1 U3 Z0 ?_
 apply AW.y rfl
 refine AW.d [.val,.val,.rd 0,.val,.val,.ext,.val,.rd 0,.ext,.ext,.wr] fol U3 (ca3 (Ks9 u v) (Jp2 (Jj8 u v) P.r) (Jt3 (P.P 0) (Je1 (Jj8 u v) P.r))) ?_
 exact AW.ret (hQ _ _ _ (RetP.z hwf Z0))
theorem Vw4 (P:PL)(u v:Int)(m:Ja1)(hk:¬P.kind=0):Ctr Tryz.prog 150 [.agg (plC P),.one (.int .i64 u),.one (.int .i64 v)] m (.agg (c3C (Kd5 P u v))) m:=by
 refine Ctr.en Tryz.func150 [.cell 6 54] 60 fun hwf Q hQ=>?_
 obtain ⟨D,hD⟩:∃ D,D=Je0 (Je0 (Je0 z0V (P.P 0)) (Je1 (Jb3 (P.P 1) (P.P 0)) (Ju4 u v))) (Je1 (Jb3 (P.P 2) (P.P 0)) (Jv6 u v)):=⟨_,rfl⟩
 have hv:Kd5 P u v=D:=by rw [hD];exact if_neg hk
 rw [hv] at hQ
 have hkb:(P.kind ==0)=false:=by simpa using hk
 have b1:=Js5 u
 have b2:=Js5 v
 have w0:IntKind.i64.wrap (Jb9 u+Jb9 v)=Jb9 u+Jb9 v:=wi (by omega)
 have w1:IntKind.i64.wrap (65536 - Jb9 u)=65536 - Jb9 u:=wi (by omega)
 have w2:IntKind.i64.wrap (65536 - Jb9 v)=65536 - Jb9 v:=wi (by omega)
 have U4:=ca4 @Jq5 @Ja4 hkb (ca3 w0 w1 w2)
 refine AW.c 1 U4 Z0 ?_
 refine AW.q fun K hK=>?_
 refine AW.c 1 U4 Z0 ?_
 apply AW.x rfl
 apply AW.z
 apply hK;clear hK
 refine AW.c 2 U4 Jr9 ?_
 refine AW.q fun K hK=>?_
 refine AW.c 1 U4 Z0 ?_
 refine AW.condJ rfl [3,6] [(1,.one (.int .i64 (Ju4 u v))),(2,.one (.int .i64 (Jv6 u v)))] [] (fun h28=>?_) (fun h28=>?_) ?_
 ·have hA:Ju4 u v=65536 - Jb9 u:=if_pos (of_decide_eq_true h28)
  have hB:Jv6 u v=65536 - Jb9 v:=if_pos (of_decide_eq_true h28)
  refine AW.c 1 U4 Z0 ?_
  refine AW.g U4 Z0 ?_
  apply Jc1
  try simp only [Jb2,Ja3,push_cast,simprocAttr,U4,hA,hB]
  exact Weak.same (by simp only [KS,simprocAttr,hA,hB]) (by first|rfl|simp only [KS,simprocAttr,hA,hB])
 ·have hA:Ju4 u v=Jb9 u:=if_neg (of_decide_eq_false h28)
  have hB:Jv6 u v=Jb9 v:=if_neg (of_decide_eq_false h28)
  apply AW.z
  apply Jc1
  try simp only [Jb2,Ja3,push_cast,simprocAttr,U4,hA,hB]
  exact Weak.same (by simp only [KS,simprocAttr,hA,hB]) (by first|rfl|simp only [KS,simprocAttr,hA,hB])
 try simp only [Jb2,Ja3,push_cast,simprocAttr,U4]
 apply hK;clear hK
 refine AW.c 1 U4 (Jt3 z0V (P.P 0)) ?_
 refine AW.d [.rd 0,.val,.val,.rd 0,.val,.val,.rd 0,.ext,.val,.ext,.ext,.wr] fol U4 (ca3 (Jg1 (P.P 1) (P.P 0)) (Jp2 (Jb3 (P.P 1) (P.P 0)) (Ju4 u v)) (Jt3 (Je0 z0V (P.P 0)) (Je1 (Jb3 (P.P 1) (P.P 0)) (Ju4 u v)))) ?_
 have q_1:=Jt3 (Je0 (Je0 z0V (P.P 0)) (Je1 (Jb3 (P.P 1) (P.P 0)) (Ju4 u v))) (Je1 (Jb3 (P.P 2) (P.P 0)) (Jv6 u v))
 rw [<-hD] at q_1
 refine AW.d [.rd 0,.val,.val,.rd 0,.val,.val,.rd 0,.ext,.val,.ext,.ext,.wr] fol U4 (ca3 (Jg1 (P.P 2) (P.P 0)) (Jp2 (Jb3 (P.P 2) (P.P 0)) (Jv6 u v)) q_1) ?_
 exact AW.ret (hQ _ _ _ (RetP.z hwf Z0))
theorem Xj7 (P:PL)(u v:Int)(m:Ja1):Ctr Tryz.prog 131 [.agg (plC P),.one (.int .i64 u),.one (.int .i64 v)] m (.agg (c3C (Kd5 P u v))) m:=by
 by_cases hk:P.kind=0
 ·exact Xj5 P u v m hk
 exact Xj6 P u v m hk
theorem Vw5 (P:PL)(u v:Int)(m:Ja1):Ctr Tryz.prog 150 [.agg (plC P),.one (.int .i64 u),.one (.int .i64 v)] m (.agg (c3C (Kd5 P u v))) m:=by
 by_cases hk:P.kind=0
 ·exact Vw3 P u v m hk
 exact Vw4 P u v m hk
theorem Xs5 (k:Int)(c:V)(ro:Int)(d n:V)(u v:Int)(m:Ja1)(hk:k=0)(g:Je8 (Jk2 k ro d n u v) n<=0):Ctr Tryz.prog 55 [.agg [.int .i64 k,.int .i64 (c 0),.int .i64 (c 1),.int .i64 (c 2),.int .i64 ro],.agg (c3C d),.agg (c3C n),.one (.int .i64 u),.one (.int .i64 v)] m (.agg (tnC (Jq3 k c ro d n u v))) m:=by
 refine Ctr.en Tryz.func55 [.cell 10 172] 62 fun hwf Q hQ=>?_
 obtain ⟨D,hD⟩:∃ D,D=Jk1 n u v:=⟨_,rfl⟩
 have hdd:Jk2 k ro d n u v=D:=by rw [hD,hk];rfl
 rw [hdd] at g
 have hv:tnC (Jq3 k c ro d n u v)=[.int .i64 0,.int .i64 0,.int .i64 0,.int .i64 0,.int .i64 0,.int .i64 0,.bool false,.bool false]:=by
   unfold Jq3
   rw [if_neg (by omega),hdd,if_pos g]
   rfl
 rw [hv] at hQ
 have hg9:¬0<Je8 D n:=by omega
 subst hk
 have U5:=ca3 @Ja4 g hg9
 refine AW.c 2 U5 Z0 ?_
 refine AW.q fun K hK=>?_
 refine AW.c 1 U5 Z0 ?_
 apply AW.b
 refine AW.c 1 U5 Z0 ?_
 apply AW.y rfl
 have q_2:=Qk2 n u v
 rw [<-hD] at q_2
 refine AW.g U5 q_2 ?_
 apply Ja6
 apply hK;clear hK
 refine AW.c 1 U5 (Jg4 D n) ?_
 refine AW.q fun K hK=>?_
 refine AW.c 1 U5 Z0 ?_
 apply AW.y rfl
 refine AW.c 1 U5 Z0 ?_
 exact AW.ret (hQ _ _ _ (RetP.z hwf Z0))
theorem Xs6 (k:Int)(c:V)(ro:Int)(d n:V)(u v:Int)(m:Ja1)(hk:k=0)(g:¬Je8 (Jk2 k ro d n u v) n<=0):Ctr Tryz.prog 55 [.agg [.int .i64 k,.int .i64 (c 0),.int .i64 (c 1),.int .i64 (c 2),.int .i64 ro],.agg (c3C d),.agg (c3C n),.one (.int .i64 u),.one (.int .i64 v)] m (.agg (tnC (Jq3 k c ro d n u v))) m:=by
 refine Ctr.en Tryz.func55 [.cell 10 172] 62 fun hwf Q hQ=>?_
 obtain ⟨D,hD⟩:∃ D,D=Jk1 n u v:=⟨_,rfl⟩
 have hdd:Jk2 k ro d n u v=D:=by rw [hD,hk];rfl
 rw [hdd] at g
 have hv:tnC (Jq3 k c ro d n u v)=[.int .i64 (D 0),.int .i64 (D 1),.int .i64 (D 2),.int .i64 (c 0),.int .i64 (c 1),.int .i64 (c 2),.bool true,.bool false]:=by
   unfold Jq3
   rw [if_neg (by omega),hdd,if_neg g]
   rw [hk];rfl
 rw [hv] at hQ
 have hg9:0<Je8 D n:=by omega
 subst hk
 have U6:=ca3 @Ja4 g hg9
 refine AW.c 2 U6 Z0 ?_
 refine AW.q fun K hK=>?_
 refine AW.c 1 U6 Z0 ?_
 apply AW.b
 refine AW.c 1 U6 Z0 ?_
 apply AW.y rfl
 have q_3:=Qk2 n u v
 rw [<-hD] at q_3
 refine AW.g U6 q_3 ?_
 apply Ja6
 apply hK;clear hK
 refine AW.c 1 U6 (Jg4 D n) ?_
 refine AW.q fun K hK=>?_
 refine AW.c 1 U6 Z0 ?_
 apply AW.x rfl
 apply AW.z
 apply hK;clear hK
 refine AW.c 1 U6 Z0 ?_
 exact AW.ret (hQ _ _ _ (RetP.z hwf Z0))
theorem Xs3 (k:Int)(c:V)(ro:Int)(d n:V)(u v:Int)(m:Ja1)(hk:k=1)(g:Je8 (Jk2 k ro d n u v) n<=0):Ctr Tryz.prog 55 [.agg [.int .i64 k,.int .i64 (c 0),.int .i64 (c 1),.int .i64 (c 2),.int .i64 ro],.agg (c3C d),.agg (c3C n),.one (.int .i64 u),.one (.int .i64 v)] m (.agg (tnC (Jq3 k c ro d n u v))) m:=by
 refine Ctr.en Tryz.func55 [.cell 10 172] 62 fun hwf Q hQ=>?_
 obtain ⟨D,hD⟩:∃ D,D=Jb7 (Kg7 d n):=⟨_,rfl⟩
 have hdd:Jk2 k ro d n u v=D:=by rw [hD,hk];rfl
 rw [hdd] at g
 have hv:tnC (Jq3 k c ro d n u v)=[.int .i64 0,.int .i64 0,.int .i64 0,.int .i64 0,.int .i64 0,.int .i64 0,.bool false,.bool false]:=by
   unfold Jq3
   rw [if_neg (by omega),hdd,if_pos g]
   rfl
 rw [hv] at hQ
 have hg9:¬0<Je8 D n:=by omega
 subst hk
 have U7:=ca3 @Ja4 g hg9
 refine AW.c 2 U7 Z0 ?_
 refine AW.q fun K hK=>?_
 refine AW.c 1 U7 Z0 ?_
 apply AW.b
 refine AW.c 1 U7 Z0 ?_
 apply AW.x rfl
 refine AW.c 1 U7 Z0 ?_
 apply AW.y rfl
 have q_4:=Jq9 (Kg7 d n)
 rw [<-hD] at q_4
 refine AW.g U7 (ca2 (Kg6 d n) q_4) ?_
 apply Ja6
 apply hK;clear hK
 refine AW.c 1 U7 (Jg4 D n) ?_
 refine AW.q fun K hK=>?_
 refine AW.c 1 U7 Z0 ?_
 apply AW.y rfl
 refine AW.c 1 U7 Z0 ?_
 exact AW.ret (hQ _ _ _ (RetP.z hwf Z0))
theorem Xs4 (k:Int)(c:V)(ro:Int)(d n:V)(u v:Int)(m:Ja1)(hk:k=1)(g:¬Je8 (Jk2 k ro d n u v) n<=0):Ctr Tryz.prog 55 [.agg [.int .i64 k,.int .i64 (c 0),.int .i64 (c 1),.int .i64 (c 2),.int .i64 ro],.agg (c3C d),.agg (c3C n),.one (.int .i64 u),.one (.int .i64 v)] m (.agg (tnC (Jq3 k c ro d n u v))) m:=by
 refine Ctr.en Tryz.func55 [.cell 10 172] 62 fun hwf Q hQ=>?_
 obtain ⟨D,hD⟩:∃ D,D=Jb7 (Kg7 d n):=⟨_,rfl⟩
 have hdd:Jk2 k ro d n u v=D:=by rw [hD,hk];rfl
 rw [hdd] at g
 have hv:tnC (Jq3 k c ro d n u v)=[.int .i64 (D 0),.int .i64 (D 1),.int .i64 (D 2),.int .i64 (c 0),.int .i64 (c 1),.int .i64 (c 2),.bool true,.bool true]:=by
   unfold Jq3
   rw [if_neg (by omega),hdd,if_neg g]
   rw [hk];rfl
 rw [hv] at hQ
 have hg9:0<Je8 D n:=by omega
 subst hk
 have U8:=ca3 @Ja4 g hg9
 refine AW.c 2 U8 Z0 ?_
 refine AW.q fun K hK=>?_
 refine AW.c 1 U8 Z0 ?_
 apply AW.b
 refine AW.c 1 U8 Z0 ?_
 apply AW.x rfl
 refine AW.c 1 U8 Z0 ?_
 apply AW.y rfl
 have q_5:=Jq9 (Kg7 d n)
 rw [<-hD] at q_5
 refine AW.g U8 (ca2 (Kg6 d n) q_5) ?_
 apply Ja6
 apply hK;clear hK
 refine AW.c 1 U8 (Jg4 D n) ?_
 refine AW.q fun K hK=>?_
 refine AW.c 1 U8 Z0 ?_
 apply AW.x rfl
 apply AW.z
 apply hK;clear hK
 refine AW.c 1 U8 Z0 ?_
 exact AW.ret (hQ _ _ _ (RetP.z hwf Z0))
theorem Xs1 (k:Int)(c:V)(ro:Int)(d n:V)(u v:Int)(m:Ja1)(hk:k=2)(g:Je8 (Jk2 k ro d n u v) n<=0):Ctr Tryz.prog 55 [.agg [.int .i64 k,.int .i64 (c 0),.int .i64 (c 1),.int .i64 (c 2),.int .i64 ro],.agg (c3C d),.agg (c3C n),.one (.int .i64 u),.one (.int .i64 v)] m (.agg (tnC (Jq3 k c ro d n u v))) m:=by
 refine Ctr.en Tryz.func55 [.cell 10 172] 62 fun hwf Q hQ=>?_
 obtain ⟨D,hD⟩:∃ D,D=Jb7 (Je0 (Kg7 d n) (Je1 (Jk1 n u v) ro)):=⟨_,rfl⟩
 have hdd:Jk2 k ro d n u v=D:=by rw [hD,hk];rfl
 rw [hdd] at g
 have hv:tnC (Jq3 k c ro d n u v)=[.int .i64 0,.int .i64 0,.int .i64 0,.int .i64 0,.int .i64 0,.int .i64 0,.bool false,.bool false]:=by
   unfold Jq3
   rw [if_neg (by omega),hdd,if_pos g]
   rfl
 rw [hv] at hQ
 have hg9:¬0<Je8 D n:=by omega
 subst hk
 have U9:=ca3 @Ja4 g hg9
 refine AW.c 2 U9 Z0 ?_
 refine AW.q fun K hK=>?_
 refine AW.c 1 U9 Z0 ?_
 apply AW.b
 refine AW.c 1 U9 Z0 ?_
 apply AW.x rfl
 refine AW.c 1 U9 Z0 ?_
 apply AW.x rfl
 refine AW.c 1 U9 Z0 ?_
 apply AW.y rfl
 refine AW.d [.rd 0,.val,.val,.ext,.val,.rd 0,.ext,.fl,.wr] fol U9 (ca2 (Qk2 n u v) (Ju3 (Jk1 n u v) ro)) ?_
 have q_6:=Jq9 (Je0 (Kg7 d n) (Je1 (Jk1 n u v) ro))
 rw [<-hD] at q_6
 refine AW.e [.rd 0,.rd 0,.ext,.rd 0,.ext,.ext,.val,.wr,.val,.wr] fol U9 (ca3 (Kg6 d n) (Qe4 (Kg7 d n) (Je1 (Jk1 n u v) ro)) q_6) ?_
 apply Ja6
 apply hK;clear hK
 refine AW.c 1 U9 (Jg4 D n) ?_
 refine AW.q fun K hK=>?_
 refine AW.c 1 U9 Z0 ?_
 apply AW.y rfl
 refine AW.c 1 U9 Z0 ?_
 exact AW.ret (hQ _ _ _ (RetP.z hwf Z0))
theorem Xs2 (k:Int)(c:V)(ro:Int)(d n:V)(u v:Int)(m:Ja1)(hk:k=2)(g:¬Je8 (Jk2 k ro d n u v) n<=0):Ctr Tryz.prog 55 [.agg [.int .i64 k,.int .i64 (c 0),.int .i64 (c 1),.int .i64 (c 2),.int .i64 ro],.agg (c3C d),.agg (c3C n),.one (.int .i64 u),.one (.int .i64 v)] m (.agg (tnC (Jq3 k c ro d n u v))) m:=by
 refine Ctr.en Tryz.func55 [.cell 10 172] 62 fun hwf Q hQ=>?_
 obtain ⟨D,hD⟩:∃ D,D=Jb7 (Je0 (Kg7 d n) (Je1 (Jk1 n u v) ro)):=⟨_,rfl⟩
 have hdd:Jk2 k ro d n u v=D:=by rw [hD,hk];rfl
 rw [hdd] at g
 have hv:tnC (Jq3 k c ro d n u v)=[.int .i64 (D 0),.int .i64 (D 1),.int .i64 (D 2),.int .i64 (c 0),.int .i64 (c 1),.int .i64 (c 2),.bool true,.bool true]:=by
   unfold Jq3
   rw [if_neg (by omega),hdd,if_neg g]
   rw [hk];rfl
 rw [hv] at hQ
 have hg9:0<Je8 D n:=by omega
 subst hk
 have U10:=ca3 @Ja4 g hg9
 refine AW.c 2 U10 Z0 ?_
 refine AW.q fun K hK=>?_
 refine AW.c 1 U10 Z0 ?_
 apply AW.b
 refine AW.c 1 U10 Z0 ?_
 apply AW.x rfl
 refine AW.c 1 U10 Z0 ?_
 apply AW.x rfl
 refine AW.c 1 U10 Z0 ?_
 apply AW.y rfl
 refine AW.d [.rd 0,.val,.val,.ext,.val,.rd 0,.ext,.fl,.wr] fol U10 (ca2 (Qk2 n u v) (Ju3 (Jk1 n u v) ro)) ?_
 have q_7:=Jq9 (Je0 (Kg7 d n) (Je1 (Jk1 n u v) ro))
 rw [<-hD] at q_7
 refine AW.e [.rd 0,.rd 0,.ext,.rd 0,.ext,.ext,.val,.wr,.val,.wr] fol U10 (ca3 (Kg6 d n) (Qe4 (Kg7 d n) (Je1 (Jk1 n u v) ro)) q_7) ?_
 apply Ja6
 apply hK;clear hK
 refine AW.c 1 U10 (Jg4 D n) ?_
 refine AW.q fun K hK=>?_
 refine AW.c 1 U10 Z0 ?_
 apply AW.x rfl
 apply AW.z
 apply hK;clear hK
 refine AW.c 1 U10 Z0 ?_
 exact AW.ret (hQ _ _ _ (RetP.z hwf Z0))
theorem bnc_o (k:Int)(c:V)(ro:Int)(d n:V)(u v:Int)(m:Ja1)(hk:k≠0/\k≠1/\k≠2):Ctr Tryz.prog 55 [.agg [.int .i64 k,.int .i64 (c 0),.int .i64 (c 1),.int .i64 (c 2),.int .i64 ro],.agg (c3C d),.agg (c3C n),.one (.int .i64 u),.one (.int .i64 v)] m (.agg (tnC (Jq3 k c ro d n u v))) m:=by
 refine Ctr.en Tryz.func55 [.cell 10 172] 62 fun hwf Q hQ=>?_
 have hv:tnC (Jq3 k c ro d n u v)=[.int .i64 0,.int .i64 0,.int .i64 0,.int .i64 0,.int .i64 0,.int .i64 0,.bool false,.bool false]:=by
   unfold Jq3
   rw [if_pos hk];rfl
 rw [hv] at hQ
 have k0:(k ==0)=false:=by simpa using hk.1
 have k1:(k ==1)=false:=by simpa using hk.2.1
 have k2:(k ==2)=false:=by simpa using hk.2.2
 have U11:=ca4 @Ja4 k0 k1 k2
 refine AW.c 2 U11 Z0 ?_
 refine AW.q fun K hK=>?_
 refine AW.c 1 U11 Z0 ?_
 apply AW.b
 refine AW.c 1 U11 Z0 ?_
 apply AW.x rfl
 refine AW.c 1 U11 Z0 ?_
 apply AW.x rfl
 refine AW.c 1 U11 Z0 ?_
 apply AW.x rfl
 refine AW.c 1 U11 Z0 ?_
 exact AW.ret (hQ _ _ _ (RetP.z hwf Z0))
theorem bnc_c (k:Int)(c:V)(ro:Int)(d n:V)(u v:Int)(m:Ja1):Ctr Tryz.prog 55 [.agg [.int .i64 k,.int .i64 (c 0),.int .i64 (c 1),.int .i64 (c 2),.int .i64 ro],.agg (c3C d),.agg (c3C n),.one (.int .i64 u),.one (.int .i64 v)] m (.agg (tnC (Jq3 k c ro d n u v))) m:=by
 by_cases h0:k=0
 ·by_cases g:Je8 (Jk2 k ro d n u v) n<=0
  ·exact Xs5 k c ro d n u v m h0 g
  exact Xs6 k c ro d n u v m h0 g
 by_cases h1:k=1
 ·by_cases g:Je8 (Jk2 k ro d n u v) n<=0
  ·exact Xs3 k c ro d n u v m h1 g
  exact Xs4 k c ro d n u v m h1 g
 by_cases h2:k=2
 ·by_cases g:Je8 (Jk2 k ro d n u v) n<=0
  ·exact Xs1 k c ro d n u v m h2 g
  exact Xs2 k c ro d n u v m h2 g
 exact bnc_o k c ro d n u v m ⟨h0,h1,h2⟩
theorem Vz9 (k:Int)(c:V)(ro:Int)(d n:V)(u v:Int)(m:Ja1)(hk:k=0)(g:Je8 (Jk2 k ro d n u v) n<=0):Ctr Tryz.prog 64 [.agg [.int .i64 k,.int .i64 (c 0),.int .i64 (c 1),.int .i64 (c 2),.int .i64 ro],.agg (c3C d),.agg (c3C n),.one (.int .i64 u),.one (.int .i64 v)] m (.agg (tnC (Jq3 k c ro d n u v))) m:=by
 refine Ctr.en Tryz.func64 [.cell 10 189] 54 fun hwf Q hQ=>?_
 obtain ⟨D,hD⟩:∃ D,D=Jk1 n u v:=⟨_,rfl⟩
 have hdd:Jk2 k ro d n u v=D:=by rw [hD,hk];rfl
 rw [hdd] at g
 have hv:tnC (Jq3 k c ro d n u v)=[.int .i64 0,.int .i64 0,.int .i64 0,.int .i64 0,.int .i64 0,.int .i64 0,.bool false,.bool false]:=by
   unfold Jq3
   rw [if_neg (by omega),hdd,if_pos g]
   rfl
 rw [hv] at hQ
 have hg9:¬0<Je8 D n:=by omega
 subst hk
 have U12:=ca3 @Ja4 g hg9
 refine AW.c 2 U12 Z0 ?_
 refine AW.q fun K hK=>?_
 refine AW.c 1 U12 Z0 ?_
 apply AW.y rfl
 have q_8:=Kt2 n u v
 rw [<-hD] at q_8
 refine AW.g U12 q_8 ?_
 apply hK;clear hK
 refine AW.q fun K hK=>?_
 refine AW.c 1 U12 (Je3 D n) ?_
 apply AW.y rfl
 refine AW.c 1 U12 Z0 ?_
 exact AW.ret (hQ _ _ _ (RetP.z hwf Z0))
theorem Xa0 (k:Int)(c:V)(ro:Int)(d n:V)(u v:Int)(m:Ja1)(hk:k=0)(g:¬Je8 (Jk2 k ro d n u v) n<=0):Ctr Tryz.prog 64 [.agg [.int .i64 k,.int .i64 (c 0),.int .i64 (c 1),.int .i64 (c 2),.int .i64 ro],.agg (c3C d),.agg (c3C n),.one (.int .i64 u),.one (.int .i64 v)] m (.agg (tnC (Jq3 k c ro d n u v))) m:=by
 refine Ctr.en Tryz.func64 [.cell 10 189] 54 fun hwf Q hQ=>?_
 obtain ⟨D,hD⟩:∃ D,D=Jk1 n u v:=⟨_,rfl⟩
 have hdd:Jk2 k ro d n u v=D:=by rw [hD,hk];rfl
 rw [hdd] at g
 have hv:tnC (Jq3 k c ro d n u v)=[.int .i64 (D 0),.int .i64 (D 1),.int .i64 (D 2),.int .i64 (c 0),.int .i64 (c 1),.int .i64 (c 2),.bool true,.bool false]:=by
   unfold Jq3
   rw [if_neg (by omega),hdd,if_neg g]
   rw [hk];rfl
 rw [hv] at hQ
 have hg9:0<Je8 D n:=by omega
 subst hk
 have U13:=ca3 @Ja4 g hg9
 refine AW.c 2 U13 Z0 ?_
 refine AW.q fun K hK=>?_
 refine AW.c 1 U13 Z0 ?_
 apply AW.y rfl
 have q_9:=Kt2 n u v
 rw [<-hD] at q_9
 refine AW.g U13 q_9 ?_
 apply hK;clear hK
 refine AW.q fun K hK=>?_
 refine AW.c 1 U13 (Je3 D n) ?_
 apply AW.x rfl
 apply AW.z
 apply hK;clear hK
 refine AW.c 1 U13 Z0 ?_
 exact AW.ret (hQ _ _ _ (RetP.z hwf Z0))
theorem Vz7 (k:Int)(c:V)(ro:Int)(d n:V)(u v:Int)(m:Ja1)(hk:k=1)(g:Je8 (Jk2 k ro d n u v) n<=0):Ctr Tryz.prog 64 [.agg [.int .i64 k,.int .i64 (c 0),.int .i64 (c 1),.int .i64 (c 2),.int .i64 ro],.agg (c3C d),.agg (c3C n),.one (.int .i64 u),.one (.int .i64 v)] m (.agg (tnC (Jq3 k c ro d n u v))) m:=by
 refine Ctr.en Tryz.func64 [.cell 10 189] 54 fun hwf Q hQ=>?_
 obtain ⟨D,hD⟩:∃ D,D=Jb7 (Kg7 d n):=⟨_,rfl⟩
 have hdd:Jk2 k ro d n u v=D:=by rw [hD,hk];rfl
 rw [hdd] at g
 have hv:tnC (Jq3 k c ro d n u v)=[.int .i64 0,.int .i64 0,.int .i64 0,.int .i64 0,.int .i64 0,.int .i64 0,.bool false,.bool false]:=by
   unfold Jq3
   rw [if_neg (by omega),hdd,if_pos g]
   rfl
 rw [hv] at hQ
 have hg9:¬0<Je8 D n:=by omega
 subst hk
 have U14:=ca3 @Ja4 g hg9
 refine AW.c 2 U14 Z0 ?_
 refine AW.q fun K hK=>?_
 refine AW.c 1 U14 Z0 ?_
 apply AW.x rfl
 refine AW.c 1 U14 Z0 ?_
 apply AW.y rfl
 have q_10:=Jm5 (Kg7 d n)
 rw [<-hD] at q_10
 refine AW.g U14 (ca2 (Kb8 d n) q_10) ?_
 apply hK;clear hK
 refine AW.q fun K hK=>?_
 refine AW.c 1 U14 (Je3 D n) ?_
 apply AW.y rfl
 refine AW.c 1 U14 Z0 ?_
 exact AW.ret (hQ _ _ _ (RetP.z hwf Z0))
theorem Vz8 (k:Int)(c:V)(ro:Int)(d n:V)(u v:Int)(m:Ja1)(hk:k=1)(g:¬Je8 (Jk2 k ro d n u v) n<=0):Ctr Tryz.prog 64 [.agg [.int .i64 k,.int .i64 (c 0),.int .i64 (c 1),.int .i64 (c 2),.int .i64 ro],.agg (c3C d),.agg (c3C n),.one (.int .i64 u),.one (.int .i64 v)] m (.agg (tnC (Jq3 k c ro d n u v))) m:=by
 refine Ctr.en Tryz.func64 [.cell 10 189] 54 fun hwf Q hQ=>?_
 obtain ⟨D,hD⟩:∃ D,D=Jb7 (Kg7 d n):=⟨_,rfl⟩
 have hdd:Jk2 k ro d n u v=D:=by rw [hD,hk];rfl
 rw [hdd] at g
 have hv:tnC (Jq3 k c ro d n u v)=[.int .i64 (D 0),.int .i64 (D 1),.int .i64 (D 2),.int .i64 (c 0),.int .i64 (c 1),.int .i64 (c 2),.bool true,.bool true]:=by
   unfold Jq3
   rw [if_neg (by omega),hdd,if_neg g]
   rw [hk];rfl
 rw [hv] at hQ
 have hg9:0<Je8 D n:=by omega
 subst hk
 have U15:=ca3 @Ja4 g hg9
 refine AW.c 2 U15 Z0 ?_
 refine AW.q fun K hK=>?_
 refine AW.c 1 U15 Z0 ?_
 apply AW.x rfl
 refine AW.c 1 U15 Z0 ?_
 apply AW.y rfl
 have q_11:=Jm5 (Kg7 d n)
 rw [<-hD] at q_11
 refine AW.g U15 (ca2 (Kb8 d n) q_11) ?_
 apply hK;clear hK
 refine AW.q fun K hK=>?_
 refine AW.c 1 U15 (Je3 D n) ?_
 apply AW.x rfl
 apply AW.z
 apply hK;clear hK
 refine AW.c 1 U15 Z0 ?_
 exact AW.ret (hQ _ _ _ (RetP.z hwf Z0))
theorem Vz5 (k:Int)(c:V)(ro:Int)(d n:V)(u v:Int)(m:Ja1)(hk:k=2)(g:Je8 (Jk2 k ro d n u v) n<=0):Ctr Tryz.prog 64 [.agg [.int .i64 k,.int .i64 (c 0),.int .i64 (c 1),.int .i64 (c 2),.int .i64 ro],.agg (c3C d),.agg (c3C n),.one (.int .i64 u),.one (.int .i64 v)] m (.agg (tnC (Jq3 k c ro d n u v))) m:=by
 refine Ctr.en Tryz.func64 [.cell 10 189] 54 fun hwf Q hQ=>?_
 obtain ⟨D,hD⟩:∃ D,D=Jb7 (Je0 (Kg7 d n) (Je1 (Jk1 n u v) ro)):=⟨_,rfl⟩
 have hdd:Jk2 k ro d n u v=D:=by rw [hD,hk];rfl
 rw [hdd] at g
 have hv:tnC (Jq3 k c ro d n u v)=[.int .i64 0,.int .i64 0,.int .i64 0,.int .i64 0,.int .i64 0,.int .i64 0,.bool false,.bool false]:=by
   unfold Jq3
   rw [if_neg (by omega),hdd,if_pos g]
   rfl
 rw [hv] at hQ
 have hg9:¬0<Je8 D n:=by omega
 subst hk
 have U16:=ca3 @Ja4 g hg9
 refine AW.c 2 U16 Z0 ?_
 refine AW.q fun K hK=>?_
 refine AW.c 1 U16 Z0 ?_
 apply AW.x rfl
 refine AW.c 1 U16 Z0 ?_
 apply AW.x rfl
 refine AW.c 1 U16 Z0 ?_
 apply AW.y rfl
 have q_12:=Jm5 (Je0 (Kg7 d n) (Je1 (Jk1 n u v) ro))
 rw [<-hD] at q_12
 refine AW.e [.rd 0,.rd 0,.ext,.rd 0,.val,.val,.ext,.val,.rd 0,.ext,.ext,.ext,.wr] fol U16 (ca4 (Kb8 d n) (Kt2 n u v) (Jp2 (Jk1 n u v) ro) (ca2 (Jt3 (Kg7 d n) (Je1 (Jk1 n u v) ro)) q_12)) ?_
 apply hK;clear hK
 refine AW.q fun K hK=>?_
 refine AW.c 1 U16 (Je3 D n) ?_
 apply AW.y rfl
 refine AW.c 1 U16 Z0 ?_
 exact AW.ret (hQ _ _ _ (RetP.z hwf Z0))
theorem Vz6 (k:Int)(c:V)(ro:Int)(d n:V)(u v:Int)(m:Ja1)(hk:k=2)(g:¬Je8 (Jk2 k ro d n u v) n<=0):Ctr Tryz.prog 64 [.agg [.int .i64 k,.int .i64 (c 0),.int .i64 (c 1),.int .i64 (c 2),.int .i64 ro],.agg (c3C d),.agg (c3C n),.one (.int .i64 u),.one (.int .i64 v)] m (.agg (tnC (Jq3 k c ro d n u v))) m:=by
 refine Ctr.en Tryz.func64 [.cell 10 189] 54 fun hwf Q hQ=>?_
 obtain ⟨D,hD⟩:∃ D,D=Jb7 (Je0 (Kg7 d n) (Je1 (Jk1 n u v) ro)):=⟨_,rfl⟩
 have hdd:Jk2 k ro d n u v=D:=by rw [hD,hk];rfl
 rw [hdd] at g
 have hv:tnC (Jq3 k c ro d n u v)=[.int .i64 (D 0),.int .i64 (D 1),.int .i64 (D 2),.int .i64 (c 0),.int .i64 (c 1),.int .i64 (c 2),.bool true,.bool true]:=by
   unfold Jq3
   rw [if_neg (by omega),hdd,if_neg g]
   rw [hk];rfl
 rw [hv] at hQ
 have hg9:0<Je8 D n:=by omega
 subst hk
 have U17:=ca3 @Ja4 g hg9
 refine AW.c 2 U17 Z0 ?_
 refine AW.q fun K hK=>?_
 refine AW.c 1 U17 Z0 ?_
 apply AW.x rfl
 refine AW.c 1 U17 Z0 ?_
 apply AW.x rfl
 refine AW.c 1 U17 Z0 ?_
 apply AW.y rfl
 have q_13:=Jm5 (Je0 (Kg7 d n) (Je1 (Jk1 n u v) ro))
 rw [<-hD] at q_13
 refine AW.e [.rd 0,.rd 0,.ext,.rd 0,.val,.val,.ext,.val,.rd 0,.ext,.ext,.ext,.wr] fol U17 (ca4 (Kb8 d n) (Kt2 n u v) (Jp2 (Jk1 n u v) ro) (ca2 (Jt3 (Kg7 d n) (Je1 (Jk1 n u v) ro)) q_13)) ?_
 apply hK;clear hK
 refine AW.q fun K hK=>?_
 refine AW.c 1 U17 (Je3 D n) ?_
 apply AW.x rfl
 apply AW.z
 apply hK;clear hK
 refine AW.c 1 U17 Z0 ?_
 exact AW.ret (hQ _ _ _ (RetP.z hwf Z0))
theorem Xm0 (k:Int)(c:V)(ro:Int)(d n:V)(u v:Int)(m:Ja1)(hk:k≠0/\k≠1/\k≠2):Ctr Tryz.prog 64 [.agg [.int .i64 k,.int .i64 (c 0),.int .i64 (c 1),.int .i64 (c 2),.int .i64 ro],.agg (c3C d),.agg (c3C n),.one (.int .i64 u),.one (.int .i64 v)] m (.agg (tnC (Jq3 k c ro d n u v))) m:=by
 refine Ctr.en Tryz.func64 [.cell 10 189] 54 fun hwf Q hQ=>?_
 have hv:tnC (Jq3 k c ro d n u v)=[.int .i64 0,.int .i64 0,.int .i64 0,.int .i64 0,.int .i64 0,.int .i64 0,.bool false,.bool false]:=by
   unfold Jq3
   rw [if_pos hk];rfl
 rw [hv] at hQ
 have k0:(k ==0)=false:=by simpa using hk.1
 have k1:(k ==1)=false:=by simpa using hk.2.1
 have k2:(k ==2)=false:=by simpa using hk.2.2
 have U18:=ca4 @Ja4 k0 k1 k2
 refine AW.c 2 U18 Z0 ?_
 refine AW.q fun K hK=>?_
 refine AW.c 1 U18 Z0 ?_
 apply AW.x rfl
 refine AW.c 1 U18 Z0 ?_
 apply AW.x rfl
 refine AW.c 1 U18 Z0 ?_
 apply AW.x rfl
 refine AW.c 1 U18 Z0 ?_
 exact AW.ret (hQ _ _ _ (RetP.z hwf Z0))
theorem Xm1 (k:Int)(c:V)(ro:Int)(d n:V)(u v:Int)(m:Ja1):Ctr Tryz.prog 64 [.agg [.int .i64 k,.int .i64 (c 0),.int .i64 (c 1),.int .i64 (c 2),.int .i64 ro],.agg (c3C d),.agg (c3C n),.one (.int .i64 u),.one (.int .i64 v)] m (.agg (tnC (Jq3 k c ro d n u v))) m:=by
 by_cases h0:k=0
 ·by_cases g:Je8 (Jk2 k ro d n u v) n<=0
  ·exact Vz9 k c ro d n u v m h0 g
  exact Xa0 k c ro d n u v m h0 g
 by_cases h1:k=1
 ·by_cases g:Je8 (Jk2 k ro d n u v) n<=0
  ·exact Vz7 k c ro d n u v m h1 g
  exact Vz8 k c ro d n u v m h1 g
 by_cases h2:k=2
 ·by_cases g:Je8 (Jk2 k ro d n u v) n<=0
  ·exact Vz5 k c ro d n u v m h2 g
  exact Vz6 k c ro d n u v m h2 g
 exact Xm0 k c ro d n u v m ⟨h0,h1,h2⟩
structure GoS (s:SC):Prop where
 xp:∀ i,i<s.nx->0<=s.xp i/\s.xp i<(s.np:Int)
 nx:s.nx<=128
 lm:(Jq7 s s.nx).length<=16
 w:1<=s.w/\s.w<=64
 h:1<=s.h/\s.h<=64
 dp:1<=s.dp/\s.dp<=6
 sm:1<=s.sm/\s.sm<=16
 fr:1<=s.fr/\s.fr<=32
 sh:0<=s.sh/\s.sh<=65536
structure SE where
 (x0 x1:CV) (sb sv lb lv:Nat) (T:RY->Int->Int->Nat)
def seC (s:SC)(R:RWs)(f:Int)(E:SE)(a b:VW):List CV:=scC s R++(.int .i64 f::E.x0::E.x1::.sl E.sb E.sv 0 s.nx::.sl E.lb E.lv 0 (Jq7 s s.nx).length::(vwC a++vwC b))
structure SetAt (m:Ja1)(p:Nat)(s:SC)(R:RWs)(f:Int)(E:SE)(a b:VW):Prop where
 hp:m[p]?=some ⟨.fix,135,0,0,seC s R f E a b⟩
 hR:ScR 140 119 223 148 155 m s R
 hs:∃ k ez,m[E.sb]?=some ⟨k,204,E.sv,ez,Jb6 s.nx (mF (mvS s f))⟩
 hl:∃ k ez,m[E.lb]?=some ⟨k,3,E.lv,ez,iC (Jq7 s s.nx)⟩
 hF:∀ (L:Ja1) (r:RY) (near far:Int),Ctr Tryz.prog 50 [.agg [E.x0,E.x1,.sl E.sb E.sv 0 s.nx],.agg (ryC r),.one (.int .i64 near),.one (.int .i64 far)] (m++L) (.tup [(true,htC (Jf0 r (mvS s f) (Jr3 (Jd2 s f) r near far))),(false,[.bool (Jr3 (Jd2 s f) r near far).isSome]),(false,[.int .i64 ((E.T r near far:Nat):Int)])]) (m++L)
 g:GoS s
theorem SetAt.app {m:Ja1}{p:Nat}{s:SC}{R:RWs}{f:Int}{E:SE}{a b:VW}(h:SetAt m p s R f E a b)(L:Ja1):SetAt (m++L) p s R f E a b where
 hp:=Ja8 h.hp L
 hR:=h.hR.app L
 hs:=by obtain ⟨k,e,q⟩:=h.hs;exact ⟨k,e,Ja8 q L⟩
 hl:=by obtain ⟨k,e,q⟩:=h.hl;exact ⟨k,e,Ja8 q L⟩
 hF:=fun L2 r near far=>by rw [List.append_assoc];exact h.hF (L++L2) r near far
 g:=h.g
theorem Vf6 (s:SC)(R:RWs)(f:Int)(E:SE)(a b:VW):seC s R f E a b=(scC s R++(.int .i64 f::E.x0::E.x1::.sl E.sb E.sv 0 s.nx::.sl E.lb E.lv 0 (Jq7 s s.nx).length::(vwC a++vwC b))):=rfl
theorem Kj9 (s:SC)(R:RWs)(f:Int)(E:SE)(a b:VW)(p:Nat)(i:Nat)(m:Ja1)(hS:SetAt m p s R f E a b)(hi:i<s.nx):Ctr Tryz.prog 53 [.one (.ptr p 0 0),.one (.int .i64 ((i:Int)))] m (.agg (pC s (s.xp i).toNat)) m:=by
 refine Ctr.en Tryz.func53 [.cell 4 140] 22 fun hwf Q hQ=>?_
 have hG:=hS.g
 have hps:=hS.hp
 have lps:=Jb4 hps
 obtain ⟨kp,ep,hp⟩:=hS.hR.hp
 have lp:=Jb4 hp
 obtain ⟨kx,ex,hx⟩:=hS.hR.hx
 have lx:=Jb4 hx
 have np:=hS.hR.np
 have nx:=hS.hR.nx
 have pl:(Jb6 s.np (pC s)).length=s.np*5:=Ja9 (w:=5) (F:=pC s) (fun _=>rfl) _
 have xl:(Jb6 s.nx (xC s)).length=s.nx*13:=Ja9 (w:=13) (F:=xC s) (fun _=>rfl) _
 obtain ⟨j,hj⟩:∃ j,j=(s.xp i).toNat:=⟨_,rfl⟩
 have hxj:s.xp i=(j:Int):=by have:=hG.xp i hi;omega
 have hjn:j<s.np:=by have:=hG.xp i hi;omega
 have d1:(0:Int)<=(j:Int):=by omega
 have d2:(j:Int)<(s.np:Int):=by omega
 have d3:j*5+5<=s.np*5:=by omega
 have d4:=Jc0 (w:=5) (F:=pC s) (fun _=>rfl) hjn
 have d5:pC s j=[.int .i64 (s.pk j),.int .i64 (s.pc j 0),.int .i64 (s.pc j 1),.int .i64 (s.pc j 2),.int .i64 (s.pr j)]:=rfl
 have d6:List.take 3 (List.drop (j*5+1) (Jb6 s.np (pC s)))=[.int .i64 (s.pc j 0),.int .i64 (s.pc j 1),.int .i64 (s.pc j 2)]:=by
   have e:(Jb6 s.np (pC s)).drop (j*5+1)=((Jb6 s.np (pC s)).drop (j*5)).drop 1:=by rw [List.drop_drop]
   have q:=congrArg (fun l=>List.take 3 (List.drop 1 l)) (d4.trans d5)
   rw [List.drop_take,List.take_take] at q
   rw [e];exact q
 have d7:j*5+1+3<=s.np*5:=by omega
 have x1:(0:Int)<=(i:Int):=by omega
 have x2:(i:Int)<(s.nx:Int):=by omega
 have x3:i*13+13<=s.nx*13:=by omega
 have x4:(Jb6 s.nx (xC s))[i*13+1]?=some (.int .i64 (s.xp i)):=Jh0 (w:=13) (F:=xC s) (fun _=>rfl) hi (a:=1) (by omega)
 rw [<-hj] at hQ
 have U1:=ca4 hps (Ja8 hps) hp (ca4 (Ja8 hp) hx (Ja8 hx) (ca4 pl xl @Vf6 (ca4 @Jg8 @Jg0 @Jg7 (ca4 @Ja4 @Kh7 hxj (ca4 d1 d2 d3 (ca4 d4 d5 d6 (ca4 d7 x1 x2 (ca4 x3 x4 hjn hi))))))))
 refine AW.c 1 U1 Z0 ?_
 refine AW.d [.val,.val,.val,.val,.rd 0,.val,.val,.val,.val,.rd 0,.val,.val,.val,.val,.rd 0,.val,.rd 0,.wr] fol U1 Z0 ?_
 exact AW.ret (hQ _ _ _ (RetP.z hwf Z0))
theorem kyC_e (k:KY):kyC k=(Jm8 k.sd k.fr k.px k.sm):=rfl
theorem Xo1 (s:SC)(R:RWs)(f:Int)(E:SE)(a b:VW)(p:Nat)(k:KY)(d:Int)(h:HT)(hi:Nat)(t9:Int)(m:Ja1)(hS:SetAt m p s R f E a b)(hd:0<=d/\d<=1000)(hhi:h.i=(hi:Int))(hiH:hi<s.nx):Ctr Tryz.prog 54 [.one (.ptr p 0 0),.agg (kyC k),.one (.int .i64 d),.agg (htC h),.one (.int .i64 t9)] m (.agg (c3C (Jm3 (Jd2 s f) k d h hi t9))) m:=by
 refine Ctr.en Tryz.func54 [.cell 10 42] 121 fun hwf Q hQ=>?_
 have hG:=hS.g
 have hps:=hS.hp
 have lps:=Jb4 hps
 obtain ⟨kp,ep,hp⟩:=hS.hR.hp
 have lp:=Jb4 hp
 obtain ⟨kx,ex,hx⟩:=hS.hR.hx
 have lx:=Jb4 hx
 have np:=hS.hR.np
 have nx:=hS.hR.nx
 have pl:(Jb6 s.np (pC s)).length=s.np*5:=Ja9 (w:=5) (F:=pC s) (fun _=>rfl) _
 have xl:(Jb6 s.nx (xC s)).length=s.nx*13:=Ja9 (w:=13) (F:=xC s) (fun _=>rfl) _
 have hFi:=hS.hF
 obtain ⟨ks,es,hs⟩:=hS.hs
 have ls:=Jb4 hs
 obtain ⟨kl,el,hl⟩:=hS.hl
 have ll:=Jb4 hl
 have sc:(Jb6 s.nx (mF (mvS s f))).length=s.nx*24:=Ja9 (w:=24) (F:=mF (mvS s f)) (fun _=>rfl) _
 obtain ⟨lm,hlm⟩:∃ l,l=Jq7 s s.nx:=⟨_,rfl⟩
 have hwl:(Jd2 s f).lm=lm:=hlm.symm
 have hl16:=hS.g.lm
 have hllt:=Kt9 s s.nx
 rw [<-hlm] at hl hl16 hllt
 have lc:(iC lm).length=lm.length:=Jg5 _
 have wd1:IntKind.i64.wrap (d+1)=d+1:=wi (by omega)
 have wd2:IntKind.i64.wrap (d+2)=d+2:=wi (by omega)
 have U2:=ca4 hps (Ja8 hps) hs (ca4 (Ja8 hs) hl (Ja8 hl) (ca4 sc lc @Vf6 (ca4 @Jg8 @Jg0 @Jg7 (ca4 @Ja4 @Kh7 @Ji8 (ca4 @kyC_e @Kk8 hhi (ca3 wd1 wd2 hlm.symm))))))
 refine AW.c 1 U2 Z0 ?_
 refine AW.q fun K hK=>?_
 refine AW.q fun K hK=>?_
 by_cases h0:lm=[]
 ·have hv:Jm3 (Jd2 s f) k d h hi t9=z0V:=by unfold Jm3;rw [hwl,if_pos h0]
  rw [hv] at hQ
  have e0:((lm.length:Int) ==0)=true:=by rw [h0];rfl
  have U3:=ca3 U2 e0 @Jm4
  refine AW.g U3 Z0 ?_
  apply hK;clear hK
  apply AW.y rfl
  refine AW.c 1 U3 Z0 ?_
  exact AW.ret (hQ _ _ _ (RetP.z hwf Z0))
 have e0:((lm.length:Int) ==0)=false:=by have:=List.length_pos_iff.2 h0;simp;omega
 have hpos:=List.length_pos_iff.2 h0
 obtain ⟨jx,hjx,hjl⟩:∃ jx:Nat,Jo3 k.sd k.fr k.px k.sm d (lm.length:Int)=(jx:Int)/\jx<lm.length:=by
   unfold Jo3
   rw [if_neg (by omega)]
   obtain ⟨z,hz⟩:∃ z,z=Jv8 k.sd k.fr k.px k.sm d / 2%(lm.length:Int):=⟨_,rfl⟩
   have m1:=Int.emod_nonneg (Jv8 k.sd k.fr k.px k.sm d / 2) (show (lm.length:Int)≠0 by omega)
   have m2:=Int.emod_lt_of_pos (Jv8 k.sd k.fr k.px k.sm d / 2) (show 0<(lm.length:Int) by omega)
   rw [<-hz] at m1 m2 ⊢
   exact ⟨z.toNat,(Int.toNat_of_nonneg m1).symm,by omega⟩
 obtain ⟨l,hl9⟩:∃ l,l=lm.getD jx 0:=⟨_,rfl⟩
 have hli:Ky9 (Jd2 s f) k d=l:=by unfold Ky9;rw [hwl,hjx,Int.toNat_natCast,<-hl9]
 have hcl:(iC lm)[jx]?=some (.int .i64 (l:Int)):=by rw [hl9];exact Km1 hjl
 have hiL:l<s.nx:=hllt l (by rw [hl9,List.getD_eq_getElem?_getD,List.getElem?_eq_getElem hjl];exact List.getElem_mem _)
 have j1:(0:Int)<=(jx:Int):=by omega
 have j2:(jx:Int)<(lm.length:Int):=by omega
 have s1:(0:Int)<=(l:Int):=by omega
 have s2:(l:Int)<(s.nx:Int):=by omega
 have s3:l*24+24<=s.nx*24:=by omega
 have s4:=Jc0 (w:=24) (F:=mF (mvS s f)) (fun _=>rfl) hiL
 have s5:mF (mvS s f) l=[.int .i64 (mvS s f l).A.kind,.int .i64 (mvS s f l).A.paint,.int .i64 ((mvS s f l).A.P 0 0),.int .i64 ((mvS s f l).A.P 0 1),.int .i64 ((mvS s f l).A.P 0 2),.int .i64 ((mvS s f l).A.P 1 0),.int .i64 ((mvS s f l).A.P 1 1),.int .i64 ((mvS s f l).A.P 1 2),.int .i64 ((mvS s f l).A.P 2 0),.int .i64 ((mvS s f l).A.P 2 1),.int .i64 ((mvS s f l).A.P 2 2),.int .i64 (mvS s f l).A.r,.int .i64 (mvS s f l).B.kind,.int .i64 (mvS s f l).B.paint,.int .i64 ((mvS s f l).B.P 0 0),.int .i64 ((mvS s f l).B.P 0 1),.int .i64 ((mvS s f l).B.P 0 2),.int .i64 ((mvS s f l).B.P 1 0),.int .i64 ((mvS s f l).B.P 1 1),.int .i64 ((mvS s f l).B.P 1 2),.int .i64 ((mvS s f l).B.P 2 0),.int .i64 ((mvS s f l).B.P 2 1),.int .i64 ((mvS s f l).B.P 2 2),.int .i64 (mvS s f l).B.r]:=rfl
 have U4:=ca4 U2 e0 hcl (ca4 j1 j2 hjl (ca4 s1 s2 s3 (ca3 s4 s5 hiL)))
 refine AW.g U4 Z0 ?_
 apply hK;clear hK
 apply AW.x rfl
 apply AW.z
 apply hK;clear hK
 have q_1:=Xf8 k.sd k.fr k.px k.sm d (lm.length:Int)
 rw [hjx] at q_1
 refine AW.d [.val,.val,.val,.rd 0,.rd 0,.val,.val,.val,.val,.rd 0,.val,.ext,.val,.rd 1,.val] fol U4 (q_1 _ (by omega)) ?_
 refine AW.q fun K hK=>?_
 refine AW.q fun K hK=>?_
 by_cases h1:l=hi
 ·have hv:Jm3 (Jd2 s f) k d h hi t9=z0V:=by unfold Jm3;rw [hwl,if_neg h0,hli,if_pos h1]
  rw [hv] at hQ
  have e1:((l:Int) ==(hi:Int))=true:=by rw [h1];simp
  have U5:=ca3 U4 e1 @Jm4
  refine AW.g U5 Z0 ?_
  apply hK;clear hK
  apply AW.y rfl
  refine AW.c 1 U5 Z0 ?_
  exact AW.ret (hQ _ _ _ (RetP.z hwf Z0))
 have e1:((l:Int) ==(hi:Int))=false:=by simp;omega
 obtain ⟨Q,hQ9⟩:∃ Q,Q=Ky8 (Jd2 s f) k d t9:=⟨_,rfl⟩
 have hQs:Kd5 (atM (mvS s f l) t9) (k.u (d+1)) (k.u (d+2))=Q:=by rw [hQ9];unfold Ky8;rw [hli];rfl
 obtain ⟨rc,hrc⟩:∃ rc,rc=Jr0 h.p h.n Q:=⟨_,rfl⟩
 obtain ⟨U,hU⟩:∃ U,U=Jb7 (Jb3 Q h.p):=⟨_,rfl⟩
 obtain ⟨FA,hFA⟩:∃ FA,FA=Ka7 (Jb3 Q h.p):=⟨_,rfl⟩
 have U6:=ca2 U4 e1
 refine AW.g U6 Z0 ?_
 apply hK;clear hK
 apply AW.x rfl
 apply AW.z
 apply hK;clear hK
 have q_2:=Xj7 (atM (mvS s f l) t9) (k.u (d+1)) (k.u (d+2))
 rw [hQs] at q_2
 refine AW.d [.val,.val,.val,.val,.rd 0,.val,.val,.rd 0,.val,.ext,.rd 0,.val,.val,.ext,.rd 0,.val,.val,.ext,.ext,.fl,.wr] fol U6 (ca4 (at_c (mvS s f l) t9) (Vb4 k.sd k.fr k.px k.sm (d+1)) (Vb4 k.sd k.fr k.px k.sm (d+2)) q_2) ?_
 have q_3:=Vz2 h.p h.n Q
 rw [<-hrc,<-hU,<-hFA] at q_3
 refine AW.c 1 U6 q_3 ?_
 refine AW.q fun K hK=>?_
 refine AW.q fun K hK=>?_
 by_cases h2:rc=0
 ·have hv:Jm3 (Jd2 s f) k d h hi t9=z0V:=by unfold Jm3;rw [hwl,if_neg h0,hli,if_neg h1,if_pos (by rw [<-hQ9,<-hrc];exact h2)]
  rw [hv] at hQ
  have e2:(rc ==0)=true:=beq_iff_eq.2 h2
  have U7:=ca3 U6 e2 @Jm4
  refine AW.g U7 Z0 ?_
  apply hK;clear hK
  apply AW.y rfl
  refine AW.c 1 U7 Z0 ?_
  exact AW.ret (hQ _ _ _ (RetP.z hwf Z0))
 have e2:(rc ==0)=false:=by simpa using h2
 obtain ⟨r9,hr9⟩:∃ r:RY,r=⟨h.p,U,t9⟩:=⟨_,rfl⟩
 have hr8:ryC r9=[.int .i64 (h.p 0),.int .i64 (h.p 1),.int .i64 (h.p 2),.int .i64 (U 0),.int .i64 (U 1),.int .i64 (U 2),.int .i64 t9]:=by rw [hr9];rfl
 obtain ⟨G,hG⟩:∃ G,G=Xc5 (Jd2 s f) k d h t9:=⟨_,rfl⟩
 have hGf:Jr3 (Jd2 s f) r9 1024 FA=G:=by rw [hG,hr9,hU,hFA,hQ9];rfl
 have U8:=ca2 U6 e2
 refine AW.g U8 Z0 ?_
 apply hK;clear hK
 apply AW.x rfl
 apply AW.z
 apply hK;clear hK
 refine AW.q fun K hK=>?_
 refine AW.q fun K hK=>?_
 have hk10:G=none\/(∃ u9,G=some (u9,l))\/(∃ u9 j9,G=some (u9,j9)/\¬j9=l):=by
   rcases hG0:G with _|⟨u9,j9⟩
   · exact .inl rfl
   by_cases h3:j9=l
   · exact .inr (.inl ⟨u9,by rw [h3]⟩)
   exact .inr (.inr ⟨u9,j9,rfl,h3⟩)
 rcases hk10 with hG0|⟨u9,hG0⟩|⟨u9,j9,hG0,h3⟩
 ·have hb0:¬Xo3 l none=true:=fun q=>(nomatch q)
  have hz8:htC (Jf0 r9 (mvS s f) none)=[.int .i64 0,.int .i64 0,.int .i64 0,.int .i64 0,.int .i64 0,.int .i64 0,.int .i64 0,.int .i64 0]:=rfl
  obtain ⟨jh,hjH⟩:∃ j,j=(s.xp hi).toNat:=⟨_,rfl⟩
  obtain ⟨jl,hjK⟩:∃ j,j=(s.xp l).toNat:=⟨_,rfl⟩
  have dH:pC s jh=[.int .i64 (s.pk jh),.int .i64 (s.pc jh 0),.int .i64 (s.pc jh 1),.int .i64 (s.pc jh 2),.int .i64 (s.pr jh)]:=rfl
  have dK:pC s jl=[.int .i64 (s.pk jl),.int .i64 (s.pc jl 0),.int .i64 (s.pc jl 1),.int .i64 (s.pc jl 2),.int .i64 (s.pr jl)]:=rfl
  have hv:Jm3 (Jd2 s f) k d h hi t9=Je1 (Je2 (s.pc jh) (s.pc jl)) (Jd8 rc (ofI (lm.length:Int))):=by
    unfold Jm3
    rw [hwl,if_neg h0,hli,if_neg h1,if_neg (by rw [<-hQ9,<-hrc];exact h2),if_neg (by rw [<-hG,hG0];exact hb0),<-hQ9,<-hrc]
    show Je1 (Je2 (s.pc (s.xp hi).toNat) (s.pc (s.xp l).toNat)) _=_
    rw [<-hjH,<-hjK]
  rw [hv] at hQ
  have q_4:=fun L=>hFi L r9 1024 FA
  rw [hGf,hG0,hr8] at q_4
  have U9:=ca4 U8 hz8 dH dK
  refine AW.e [.val,.val,.val,.rd 0,.val,.rd 0,.rd 0,.val,.val,.val,.ext,.val,.val,.val,.val,.fl,.wr,.val,.val] fol U9 q_4 ?_
  apply hK;clear hK
  refine AW.c 1 U9 Z0 ?_
  apply AW.x rfl
  apply AW.z
  apply hK;clear hK
  have q_5:=Kj9 s R f E a b p hi
  rw [<-hjH] at q_5
  have q_6:=Kj9 s R f E a b p l
  rw [<-hjK] at q_6
  refine AW.c 1 U9 (ca3 (q_5 _ (hS.app _) hiH) (q_6 _ (hS.app _) hiL) (Km2 (s.pc jh) (s.pc jl))) ?_
  refine AW.d [.rd 0,.val,.val,.val,.val,.rd 0,.val,.ext,.ext,.ext,.wr] fol U9 (ca3 Xh4 Jm2 (Qi4 (Je2 (s.pc jh) (s.pc jl)) (Jd8 rc (ofI (lm.length:Int))))) ?_
  exact AW.ret (hQ _ _ _ (RetP.z hwf Z0))
 ·have hz9:(Jf0 r9 (mvS s f) (some (u9,l))).i=(l:Int):=rfl
  have e3:((l:Int) !=(l:Int))=false:=by simp
  have hb0:¬Xo3 l (some (u9,l))=true:=by show ¬(!(l ==l))=true;simp
  obtain ⟨jh,hjH⟩:∃ j,j=(s.xp hi).toNat:=⟨_,rfl⟩
  obtain ⟨jl,hjK⟩:∃ j,j=(s.xp l).toNat:=⟨_,rfl⟩
  have dH:pC s jh=[.int .i64 (s.pk jh),.int .i64 (s.pc jh 0),.int .i64 (s.pc jh 1),.int .i64 (s.pc jh 2),.int .i64 (s.pr jh)]:=rfl
  have dK:pC s jl=[.int .i64 (s.pk jl),.int .i64 (s.pc jl 0),.int .i64 (s.pc jl 1),.int .i64 (s.pc jl 2),.int .i64 (s.pr jl)]:=rfl
  have hv:Jm3 (Jd2 s f) k d h hi t9=Je1 (Je2 (s.pc jh) (s.pc jl)) (Jd8 rc (ofI (lm.length:Int))):=by
    unfold Jm3
    rw [hwl,if_neg h0,hli,if_neg h1,if_neg (by rw [<-hQ9,<-hrc];exact h2),if_neg (by rw [<-hG,hG0];exact hb0),<-hQ9,<-hrc]
    show Je1 (Je2 (s.pc (s.xp hi).toNat) (s.pc (s.xp l).toNat)) _=_
    rw [<-hjH,<-hjK]
  rw [hv] at hQ
  have q_7:=fun L=>hFi L r9 1024 FA
  rw [hGf,hG0,hr8] at q_7
  have U10:=ca4 U8 hz9 e3 (ca2 dH dK)
  refine AW.e [.val,.val,.val,.rd 0,.val,.rd 0,.rd 0,.val,.val,.val,.ext,.val,.val,.val,.val,.fl,.wr,.val,.val] fol U10 q_7 ?_
  apply hK;clear hK
  refine AW.c 1 U10 Z0 ?_
  apply AW.x rfl
  apply AW.z
  apply hK;clear hK
  have q_8:=Kj9 s R f E a b p hi
  rw [<-hjH] at q_8
  have q_9:=Kj9 s R f E a b p l
  rw [<-hjK] at q_9
  refine AW.c 1 U10 (ca3 (q_8 _ (hS.app _) hiH) (q_9 _ (hS.app _) hiL) (Km2 (s.pc jh) (s.pc jl))) ?_
  refine AW.d [.rd 0,.val,.val,.val,.val,.rd 0,.val,.ext,.ext,.ext,.wr] fol U10 (ca3 Xh4 Jm2 (Qi4 (Je2 (s.pc jh) (s.pc jl)) (Jd8 rc (ofI (lm.length:Int))))) ?_
  exact AW.ret (hQ _ _ _ (RetP.z hwf Z0))
 have hz9:(Jf0 r9 (mvS s f) (some (u9,j9))).i=(j9:Int):=rfl
 have e3:((j9:Int) !=(l:Int))=true:=by simp;omega
 have hv:Jm3 (Jd2 s f) k d h hi t9=z0V:=by unfold Jm3;rw [hwl,if_neg h0,hli,if_neg h1,if_neg (by rw [<-hQ9,<-hrc];exact h2),if_pos (by rw [<-hG,hG0];show (!(j9 ==l))=true;simpa using h3)]
 rw [hv] at hQ
 have q_10:=fun L=>hFi L r9 1024 FA
 rw [hGf,hG0,hr8] at q_10
 have U11:=ca4 U8 hz9 e3 @Jm4
 refine AW.e [.val,.val,.val,.rd 0,.val,.rd 0,.rd 0,.val,.val,.val,.ext,.val,.val,.val,.val,.fl,.wr,.val,.val] fol U11 q_10 ?_
 apply hK;clear hK
 refine AW.c 1 U11 Z0 ?_
 apply AW.y rfl
 refine AW.c 1 U11 Z0 ?_
 exact AW.ret (hQ _ _ _ (RetP.z hwf Z0))
theorem Vx5 (s:SC)(R:RWs)(f:Int)(lr lv:Nat)(k:KY)(d:Int)(h:HT)(hi:Nat)(t9:Int)(m:Ja1)(hR:ScR 138 143 285 146 150 m s R)(hm:∃ k ez,m[lr]?=some ⟨k,78,lv,ez,Jb6 s.nx (mF (mvS s f))⟩)(hG:GoS s)(hd:0<=d/\d<=1000)(hhi:h.i=(hi:Int))(hiH:hi<s.nx):Ctr Tryz.prog 63 [.agg (scC s R),.one (.sl lr lv 0 s.nx),.agg (kyC k),.one (.int .i64 d),.agg (htC h),.one (.int .i64 t9)] m (.agg (c3C (Jm3 (Jd2 s f) k d h hi t9))) m:=by
 refine Ctr.en Tryz.func63 [.cell 12 24] 119 fun hwf Q hQ=>?_
 obtain ⟨kp,ep,hp⟩:=hR.hp
 have lp:=Jb4 hp
 obtain ⟨kx,ex,hx⟩:=hR.hx
 have lx:=Jb4 hx
 have np:=hR.np
 have nx:=hR.nx
 have pl:(Jb6 s.np (pC s)).length=s.np*5:=Ja9 (w:=5) (F:=pC s) (fun _=>rfl) _
 have xl:(Jb6 s.nx (xC s)).length=s.nx*13:=Ja9 (w:=13) (F:=xC s) (fun _=>rfl) _
 obtain ⟨ks,es,hs⟩:=hm
 have ls:=Jb4 hs
 have sc:(Jb6 s.nx (mF (mvS s f))).length=s.nx*24:=Ja9 (w:=24) (F:=mF (mvS s f)) (fun _=>rfl) _
 obtain ⟨lm,hlm⟩:∃ l,l=Jq7 s s.nx:=⟨_,rfl⟩
 have hwl:(Jd2 s f).lm=lm:=hlm.symm
 have hl16:=hG.lm
 have hllt:=Kt9 s s.nx
 rw [<-hlm] at hl16 hllt
 have lc:(iC lm).length=lm.length:=Jg5 _
 have wd1:IntKind.i64.wrap (d+1)=d+1:=wi (by omega)
 have wd2:IntKind.i64.wrap (d+2)=d+2:=wi (by omega)
 refine AW.sr 2 fun K hK=>?_
 have U1:=ca4 hp (Ja8 hp) hx (ca4 (Ja8 hx) hs (Ja8 hs) (ca4 pl xl sc (ca4 lc hhi wd1 wd2)))
 simp only [push_cast,simprocAttr,scC,hdC,tlC,c3C,htC,kyC,Jm8,U1]
 refine CThen.by ((by have h9:=fun M hR=>Xk6 s R M hR;rw [Kc5,Jw7,<-hlm] at h9;exact h9 _ (hR.app _))) ?_
 simp only [push_cast,simprocAttr,scC,hdC,tlC,c3C,htC,kyC,Jm8,U1]
 apply hK;clear hK
 refine AW.q fun K hK=>?_
 refine AW.q fun K hK=>?_
 by_cases h0:lm=[]
 ·have hv:Jm3 (Jd2 s f) k d h hi t9=z0V:=by unfold Jm3;rw [hwl,if_pos h0]
  rw [hv] at hQ
  have e0:((lm.length:Int) ==0)=true:=by rw [h0];rfl
  refine AW.rg ?_
  simp only [push_cast,simprocAttr,scC,hdC,tlC,c3C,htC,kyC,Jm8,U1,e0,z0V]
  apply hK;clear hK
  apply AW.y rfl
  refine AW.sr 1 fun K hK=>?_
  simp only [push_cast,simprocAttr,scC,hdC,tlC,c3C,htC,kyC,Jm8,U1,e0,z0V]
  apply hK;clear hK
  refine AW.ret ?_
  apply Jc9
  refine hQ _ _ _ ?_
  first|refine RetP.drop0 (by first|exact Or.inr rfl|exact Or.inl rfl) ?_ ?_ hwf|refine RetP.drop (by first|exact Or.inr rfl|exact Or.inl rfl) ?_ ?_ hwf
  · (simp only [Jd3,Ja7,Jb5,AV.tv,push_cast,simprocAttr])<;>rfl
  rfl
 have e0:((lm.length:Int) ==0)=false:=by have:=List.length_pos_iff.2 h0;simp;omega
 have hpos:=List.length_pos_iff.2 h0
 obtain ⟨jx,hjx,hjl⟩:∃ jx:Nat,Jo3 k.sd k.fr k.px k.sm d (lm.length:Int)=(jx:Int)/\jx<lm.length:=by
   unfold Jo3
   rw [if_neg (by omega)]
   obtain ⟨z,hz⟩:∃ z,z=Jv8 k.sd k.fr k.px k.sm d / 2%(lm.length:Int):=⟨_,rfl⟩
   have m1:=Int.emod_nonneg (Jv8 k.sd k.fr k.px k.sm d / 2) (show (lm.length:Int)≠0 by omega)
   have m2:=Int.emod_lt_of_pos (Jv8 k.sd k.fr k.px k.sm d / 2) (show 0<(lm.length:Int) by omega)
   rw [<-hz] at m1 m2 ⊢
   exact ⟨z.toNat,(Int.toNat_of_nonneg m1).symm,by omega⟩
 obtain ⟨l,hl9⟩:∃ l,l=lm.getD jx 0:=⟨_,rfl⟩
 have hli:Ky9 (Jd2 s f) k d=l:=by unfold Ky9;rw [hwl,hjx,Int.toNat_natCast,<-hl9]
 have hcl:(iC lm)[jx]?=some (.int .i64 (l:Int)):=by rw [hl9];exact Km1 hjl
 have hiL:l<s.nx:=hllt l (by rw [hl9,List.getD_eq_getElem?_getD,List.getElem?_eq_getElem hjl];exact List.getElem_mem _)
 have j1:(0:Int)<=(jx:Int):=by omega
 have j2:(jx:Int)<(lm.length:Int):=by omega
 have s1:(0:Int)<=(l:Int):=by omega
 have s2:(l:Int)<(s.nx:Int):=by omega
 have s3:l*24+24<=s.nx*24:=by omega
 have s4:=Jc0 (w:=24) (F:=mF (mvS s f)) (fun _=>rfl) hiL
 have s5:mF (mvS s f) l=[.int .i64 (mvS s f l).A.kind,.int .i64 (mvS s f l).A.paint,.int .i64 ((mvS s f l).A.P 0 0),.int .i64 ((mvS s f l).A.P 0 1),.int .i64 ((mvS s f l).A.P 0 2),.int .i64 ((mvS s f l).A.P 1 0),.int .i64 ((mvS s f l).A.P 1 1),.int .i64 ((mvS s f l).A.P 1 2),.int .i64 ((mvS s f l).A.P 2 0),.int .i64 ((mvS s f l).A.P 2 1),.int .i64 ((mvS s f l).A.P 2 2),.int .i64 (mvS s f l).A.r,.int .i64 (mvS s f l).B.kind,.int .i64 (mvS s f l).B.paint,.int .i64 ((mvS s f l).B.P 0 0),.int .i64 ((mvS s f l).B.P 0 1),.int .i64 ((mvS s f l).B.P 0 2),.int .i64 ((mvS s f l).B.P 1 0),.int .i64 ((mvS s f l).B.P 1 1),.int .i64 ((mvS s f l).B.P 1 2),.int .i64 ((mvS s f l).B.P 2 0),.int .i64 ((mvS s f l).B.P 2 1),.int .i64 ((mvS s f l).B.P 2 2),.int .i64 (mvS s f l).B.r]:=rfl
 refine AW.rg ?_
 have U2:=ca4 U1 e0 hcl (ca4 j1 j2 hjl (ca4 s1 s2 s3 (ca3 s4 s5 hiL)))
 simp only [push_cast,simprocAttr,scC,hdC,tlC,c3C,htC,kyC,Jm8,U2]
 apply hK;clear hK
 apply AW.x rfl
 apply AW.z
 apply hK;clear hK
 refine AW.sr 1 fun K hK=>?_
 simp only [push_cast,simprocAttr,scC,hdC,tlC,c3C,htC,kyC,Jm8,U2]
 refine CThen.by ((by have h9:=Vi1 k.sd k.fr k.px k.sm d (lm.length:Int);rw [hjx] at h9;exact h9 _ (by omega))) ?_
 simp only [push_cast,simprocAttr,scC,hdC,tlC,c3C,htC,kyC,Jm8,U2]
 apply hK;clear hK
 refine AW.q fun K hK=>?_
 refine AW.q fun K hK=>?_
 by_cases h1:l=hi
 ·have hv:Jm3 (Jd2 s f) k d h hi t9=z0V:=by unfold Jm3;rw [hwl,if_neg h0,hli,if_pos h1]
  rw [hv] at hQ
  have e1:((l:Int) ==(hi:Int))=true:=by rw [h1];simp
  refine AW.rg ?_
  simp only [push_cast,simprocAttr,scC,hdC,tlC,c3C,htC,kyC,Jm8,U2,e1,z0V]
  apply hK;clear hK
  apply AW.y rfl
  refine AW.sr 1 fun K hK=>?_
  simp only [push_cast,simprocAttr,scC,hdC,tlC,c3C,htC,kyC,Jm8,U2,e1,z0V]
  apply hK;clear hK
  refine AW.ret ?_
  apply Jc9
  refine hQ _ _ _ ?_
  first|refine RetP.drop0 (by first|exact Or.inr rfl|exact Or.inl rfl) ?_ ?_ hwf|refine RetP.drop (by first|exact Or.inr rfl|exact Or.inl rfl) ?_ ?_ hwf
  · (simp only [Jd3,Ja7,Jb5,AV.tv,push_cast,simprocAttr])<;>rfl
  rfl
 have e1:((l:Int) ==(hi:Int))=false:=by simp;omega
 obtain ⟨Q,hQ9⟩:∃ Q,Q=Ky8 (Jd2 s f) k d t9:=⟨_,rfl⟩
 have hQs:Kd5 (atM (mvS s f l) t9) (k.u (d+1)) (k.u (d+2))=Q:=by rw [hQ9];unfold Ky8;rw [hli];rfl
 obtain ⟨rc,hrc⟩:∃ rc,rc=Jr0 h.p h.n Q:=⟨_,rfl⟩
 obtain ⟨U,hU⟩:∃ U,U=Jb7 (Jb3 Q h.p):=⟨_,rfl⟩
 obtain ⟨FA,hFA⟩:∃ FA,FA=Ka7 (Jb3 Q h.p):=⟨_,rfl⟩
 refine AW.rg ?_
 simp only [push_cast,simprocAttr,scC,hdC,tlC,c3C,htC,kyC,Jm8,U2,e1]
 apply hK;clear hK
 apply AW.x rfl
 apply AW.z
 apply hK;clear hK
 refine AW.q fun K hK=>?_
 refine AW.draw [.val,.val,.val,.rd 0,.val,.ext,.rd 0,.val,.val,.ext,.rd 0,.val,.val,.ext,.ext,.fl,.wr] fol (by decide) (by kernel_rfl) ?_
 simp only [push_cast,simprocAttr,scC,hdC,tlC,c3C,htC,kyC,Jm8,U2,e1]
 refine DCall.z (Qw9 (mvS s f l) t9 _) ?_
 simp only [push_cast,simprocAttr,scC,hdC,tlC,c3C,htC,kyC,Jm8,U2,e1]
 refine DCall.z (Qc4 k.sd k.fr k.px k.sm (d+1) _) ?_
 simp only [push_cast,simprocAttr,scC,hdC,tlC,c3C,htC,kyC,Jm8,U2,e1]
 refine DCall.z (Qc4 k.sd k.fr k.px k.sm (d+2) _) ?_
 simp only [push_cast,simprocAttr,scC,hdC,tlC,c3C,htC,kyC,Jm8,U2,e1]
 refine DCall.z ((by have h9:=Vw5 (atM (mvS s f l) t9) (k.u (d+1)) (k.u (d+2));rw [hQs] at h9;exact h9 _)) ?_
 simp only [push_cast,simprocAttr,scC,hdC,tlC,c3C,htC,kyC,Jm8,U2,e1]
 apply hK;clear hK
 refine AW.sr 1 fun K hK=>?_
 simp only [push_cast,simprocAttr,scC,hdC,tlC,c3C,htC,kyC,Jm8,U2,e1]
 refine CThen.by ((by have h9:=Vh5 h.p h.n Q;rw [<-hrc,<-hU,<-hFA] at h9;exact h9 _)) ?_
 simp only [push_cast,simprocAttr,scC,hdC,tlC,c3C,htC,kyC,Jm8,U2,e1]
 apply hK;clear hK
 refine AW.q fun K hK=>?_
 refine AW.q fun K hK=>?_
 by_cases h2:rc=0
 ·have hv:Jm3 (Jd2 s f) k d h hi t9=z0V:=by unfold Jm3;rw [hwl,if_neg h0,hli,if_neg h1,if_pos (by rw [<-hQ9,<-hrc];exact h2)]
  rw [hv] at hQ
  have e2:(rc ==0)=true:=beq_iff_eq.2 h2
  refine AW.rg ?_
  simp only [push_cast,simprocAttr,scC,hdC,tlC,c3C,htC,kyC,Jm8,U2,e1,e2,z0V]
  apply hK;clear hK
  apply AW.y rfl
  refine AW.sr 1 fun K hK=>?_
  simp only [push_cast,simprocAttr,scC,hdC,tlC,c3C,htC,kyC,Jm8,U2,e1,e2,z0V]
  apply hK;clear hK
  refine AW.ret ?_
  apply Jc9
  refine hQ _ _ _ ?_
  first|refine RetP.drop0 (by first|exact Or.inr rfl|exact Or.inl rfl) ?_ ?_ hwf|refine RetP.drop (by first|exact Or.inr rfl|exact Or.inl rfl) ?_ ?_ hwf
  · (simp only [Jd3,Ja7,Jb5,AV.tv,push_cast,simprocAttr])<;>rfl
  rfl
 have e2:(rc ==0)=false:=by simpa using h2
 obtain ⟨r9,hr9⟩:∃ r:RY,r=⟨h.p,U,t9⟩:=⟨_,rfl⟩
 have hr8:ryC r9=[.int .i64 (h.p 0),.int .i64 (h.p 1),.int .i64 (h.p 2),.int .i64 (U 0),.int .i64 (U 1),.int .i64 (U 2),.int .i64 t9]:=by rw [hr9];rfl
 obtain ⟨G,hG9⟩:∃ G,G=Xc5 (Jd2 s f) k d h t9:=⟨_,rfl⟩
 have hGf:Jg9 (Hq r9 (mvS s f) 1024 FA) s.nx=G:=by rw [hG9,hr9,hU,hFA,hQ9];rfl
 refine AW.rg ?_
 simp only [push_cast,simprocAttr,scC,hdC,tlC,c3C,htC,kyC,Jm8,U2,e1,e2]
 apply hK;clear hK
 apply AW.x rfl
 apply AW.z
 apply hK;clear hK
 refine AW.q fun K hK=>?_
 have hiA:=hiH
 have hiB:=hiL
 have hk10:G=none\/(∃ u9,G=some (u9,l))\/(∃ u9 j9,G=some (u9,j9)/\¬j9=l):=by
   rcases hG0:G with _|⟨u9,j9⟩
   · exact .inl rfl
   by_cases h3:j9=l
   · exact .inr (.inl ⟨u9,by rw [h3]⟩)
   exact .inr (.inr ⟨u9,j9,rfl,h3⟩)
 rcases hk10 with hG0|⟨u9,hG0⟩|⟨u9,j9,hG0,h3⟩
 ·have hb0:¬Xo3 l none=true:=fun q=>(nomatch q)
  have hz8:htC (Jf0 r9 (mvS s f) none)=[.int .i64 0,.int .i64 0,.int .i64 0,.int .i64 0,.int .i64 0,.int .i64 0,.int .i64 0,.int .i64 0]:=rfl
  obtain ⟨jh,hjA⟩:∃ j,j=(s.xp hi).toNat:=⟨_,rfl⟩
  have hxjA:s.xp hi=(jh:Int):=by have:=hG.xp hi hiA;omega
  have hjnA:jh<s.np:=by have:=hG.xp hi hiA;omega
  have d1A:(0:Int)<=(jh:Int):=by omega
  have d2A:(jh:Int)<(s.np:Int):=by omega
  have d3A:jh*5+5<=s.np*5:=by omega
  have d4A:=Jc0 (w:=5) (F:=pC s) (fun _=>rfl) hjnA
  have d5A:pC s jh=[.int .i64 (s.pk jh),.int .i64 (s.pc jh 0),.int .i64 (s.pc jh 1),.int .i64 (s.pc jh 2),.int .i64 (s.pr jh)]:=rfl
  have d6A:List.take 3 (List.drop (jh*5+1) (Jb6 s.np (pC s)))=[.int .i64 (s.pc jh 0),.int .i64 (s.pc jh 1),.int .i64 (s.pc jh 2)]:=by
    have e:(Jb6 s.np (pC s)).drop (jh*5+1)=((Jb6 s.np (pC s)).drop (jh*5)).drop 1:=by rw [List.drop_drop]
    have q:=congrArg (fun l=>List.take 3 (List.drop 1 l)) (d4A.trans d5A)
    rw [List.drop_take,List.take_take] at q
    rw [e];exact q
  have d7A:jh*5+1+3<=s.np*5:=by omega
  have x1A:(0:Int)<=(hi:Int):=by omega
  have x2A:(hi:Int)<(s.nx:Int):=by omega
  have x3A:hi*13+13<=s.nx*13:=by omega
  have x4A:(Jb6 s.nx (xC s))[hi*13+1]?=some (.int .i64 (s.xp hi)):=Jh0 (w:=13) (F:=xC s) (fun _=>rfl) hiA (a:=1) (by omega)
  obtain ⟨jl,hjB⟩:∃ j,j=(s.xp l).toNat:=⟨_,rfl⟩
  have hxjB:s.xp l=(jl:Int):=by have:=hG.xp l hiB;omega
  have hjnB:jl<s.np:=by have:=hG.xp l hiB;omega
  have d1B:(0:Int)<=(jl:Int):=by omega
  have d2B:(jl:Int)<(s.np:Int):=by omega
  have d3B:jl*5+5<=s.np*5:=by omega
  have d4B:=Jc0 (w:=5) (F:=pC s) (fun _=>rfl) hjnB
  have d5B:pC s jl=[.int .i64 (s.pk jl),.int .i64 (s.pc jl 0),.int .i64 (s.pc jl 1),.int .i64 (s.pc jl 2),.int .i64 (s.pr jl)]:=rfl
  have d6B:List.take 3 (List.drop (jl*5+1) (Jb6 s.np (pC s)))=[.int .i64 (s.pc jl 0),.int .i64 (s.pc jl 1),.int .i64 (s.pc jl 2)]:=by
    have e:(Jb6 s.np (pC s)).drop (jl*5+1)=((Jb6 s.np (pC s)).drop (jl*5)).drop 1:=by rw [List.drop_drop]
    have q:=congrArg (fun l=>List.take 3 (List.drop 1 l)) (d4B.trans d5B)
    rw [List.drop_take,List.take_take] at q
    rw [e];exact q
  have d7B:jl*5+1+3<=s.np*5:=by omega
  have x1B:(0:Int)<=(l:Int):=by omega
  have x2B:(l:Int)<(s.nx:Int):=by omega
  have x3B:l*13+13<=s.nx*13:=by omega
  have x4B:(Jb6 s.nx (xC s))[l*13+1]?=some (.int .i64 (s.xp l)):=Jh0 (w:=13) (F:=xC s) (fun _=>rfl) hiB (a:=1) (by omega)
  have hv:Jm3 (Jd2 s f) k d h hi t9=Je1 (Je2 (s.pc jh) (s.pc jl)) (Jd8 rc (ofI (lm.length:Int))):=by
    unfold Jm3
    rw [hwl,if_neg h0,hli,if_neg h1,if_neg (by rw [<-hQ9,<-hrc];exact h2),if_neg (by rw [<-hG9,hG0];exact hb0),<-hQ9,<-hrc]
    show Je1 (Je2 (s.pc (s.xp hi).toNat) (s.pc (s.xp l).toNat)) _=_
    rw [<-hjA,<-hjB]
  rw [hv] at hQ
  refine AW.rg ?_
  have U3:=ca4 U2 e1 e2 (ca4 hz8 hxjA d1A (ca4 d2A d3A d4A (ca4 d5A d6A d7A (ca4 x1A x2A x3A (ca4 x4A hjnA hiA (ca4 hxjB d1B d2B (ca4 d3B d4B d5B (ca4 d6B d7B x1B (ca4 x2B x3B x4B (ca2 hjnB hiB))))))))))
  simp only [push_cast,simprocAttr,scC,hdC,tlC,c3C,htC,kyC,Jm8,U3]
  refine CThen.by ((by have h9:=fun M hb=>Kj2 r9 (mvS s f) lr lv s.nx 1024 FA M hb (by have:=hG.nx;omega);rw [hGf,hG0,hr8] at h9;exact h9 _ ⟨_,_,Ja8 hs _⟩)) ?_
  simp only [push_cast,simprocAttr,scC,hdC,tlC,c3C,htC,kyC,Jm8,U3]
  apply hK;clear hK
  refine AW.q fun K hK=>?_
  refine AW.sr 1 fun K hK=>?_
  simp only [push_cast,simprocAttr,scC,hdC,tlC,c3C,htC,kyC,Jm8,U3]
  apply hK;clear hK
  apply AW.x rfl
  apply AW.z
  apply hK;clear hK
  refine AW.q fun K hK=>?_
  refine AW.draw [.val,.rd 0,.val,.rd 0,.val,.rd 0,.val,.val,.rd 0,.val,.val,.rd 0,.val,.rd 0,.val,.rd 0,.val,.val,.val,.rd 0,.val,.val,.rd 0,.ext,.fl,.wr] fol (by decide) (by kernel_rfl) ?_
  simp only [push_cast,simprocAttr,scC,hdC,tlC,c3C,htC,kyC,Jm8,U3]
  refine DCall.z (Jz5 (s.pc jh) (s.pc jl) _) ?_
  simp only [push_cast,simprocAttr,scC,hdC,tlC,c3C,htC,kyC,Jm8,U3]
  apply hK;clear hK
  refine AW.q fun K hK=>?_
  refine AW.draw [.rd 0,.val,.val,.val,.ext,.ext,.ext,.wr] fol (by decide) (by kernel_rfl) ?_
  simp only [push_cast,simprocAttr,scC,hdC,tlC,c3C,htC,kyC,Jm8,U3]
  refine DCall.z (Qv4 _ _) ?_
  simp only [push_cast,simprocAttr,scC,hdC,tlC,c3C,htC,kyC,Jm8,U3]
  refine DCall.z (Jg3 _ _ _) ?_
  simp only [push_cast,simprocAttr,scC,hdC,tlC,c3C,htC,kyC,Jm8,U3]
  refine DCall.z (Kx2 (Je2 (s.pc jh) (s.pc jl)) (Jd8 rc (ofI (lm.length:Int))) _) ?_
  simp only [push_cast,simprocAttr,scC,hdC,tlC,c3C,htC,kyC,Jm8,U3]
  apply hK;clear hK
  refine AW.ret ?_
  refine hQ _ _ _ ?_
  first|refine RetP.drop0 (by first|exact Or.inr rfl|exact Or.inl rfl) ?_ ?_ hwf|refine RetP.drop (by first|exact Or.inr rfl|exact Or.inl rfl) ?_ ?_ hwf
  · (simp only [Jd3,Ja7,Jb5,AV.tv,push_cast,simprocAttr])<;>rfl
  rfl
 ·have hz9:(Jf0 r9 (mvS s f) (some (u9,l))).i=(l:Int):=rfl
  have e3:((l:Int) !=(l:Int))=false:=by simp
  have hb0:¬Xo3 l (some (u9,l))=true:=by show ¬(!(l ==l))=true;simp
  obtain ⟨jh,hjA⟩:∃ j,j=(s.xp hi).toNat:=⟨_,rfl⟩
  have hxjA:s.xp hi=(jh:Int):=by have:=hG.xp hi hiA;omega
  have hjnA:jh<s.np:=by have:=hG.xp hi hiA;omega
  have d1A:(0:Int)<=(jh:Int):=by omega
  have d2A:(jh:Int)<(s.np:Int):=by omega
  have d3A:jh*5+5<=s.np*5:=by omega
  have d4A:=Jc0 (w:=5) (F:=pC s) (fun _=>rfl) hjnA
  have d5A:pC s jh=[.int .i64 (s.pk jh),.int .i64 (s.pc jh 0),.int .i64 (s.pc jh 1),.int .i64 (s.pc jh 2),.int .i64 (s.pr jh)]:=rfl
  have d6A:List.take 3 (List.drop (jh*5+1) (Jb6 s.np (pC s)))=[.int .i64 (s.pc jh 0),.int .i64 (s.pc jh 1),.int .i64 (s.pc jh 2)]:=by
    have e:(Jb6 s.np (pC s)).drop (jh*5+1)=((Jb6 s.np (pC s)).drop (jh*5)).drop 1:=by rw [List.drop_drop]
    have q:=congrArg (fun l=>List.take 3 (List.drop 1 l)) (d4A.trans d5A)
    rw [List.drop_take,List.take_take] at q
    rw [e];exact q
  have d7A:jh*5+1+3<=s.np*5:=by omega
  have x1A:(0:Int)<=(hi:Int):=by omega
  have x2A:(hi:Int)<(s.nx:Int):=by omega
  have x3A:hi*13+13<=s.nx*13:=by omega
  have x4A:(Jb6 s.nx (xC s))[hi*13+1]?=some (.int .i64 (s.xp hi)):=Jh0 (w:=13) (F:=xC s) (fun _=>rfl) hiA (a:=1) (by omega)
  obtain ⟨jl,hjB⟩:∃ j,j=(s.xp l).toNat:=⟨_,rfl⟩
  have hxjB:s.xp l=(jl:Int):=by have:=hG.xp l hiB;omega
  have hjnB:jl<s.np:=by have:=hG.xp l hiB;omega
  have d1B:(0:Int)<=(jl:Int):=by omega
  have d2B:(jl:Int)<(s.np:Int):=by omega
  have d3B:jl*5+5<=s.np*5:=by omega
  have d4B:=Jc0 (w:=5) (F:=pC s) (fun _=>rfl) hjnB
  have d5B:pC s jl=[.int .i64 (s.pk jl),.int .i64 (s.pc jl 0),.int .i64 (s.pc jl 1),.int .i64 (s.pc jl 2),.int .i64 (s.pr jl)]:=rfl
  have d6B:List.take 3 (List.drop (jl*5+1) (Jb6 s.np (pC s)))=[.int .i64 (s.pc jl 0),.int .i64 (s.pc jl 1),.int .i64 (s.pc jl 2)]:=by
    have e:(Jb6 s.np (pC s)).drop (jl*5+1)=((Jb6 s.np (pC s)).drop (jl*5)).drop 1:=by rw [List.drop_drop]
    have q:=congrArg (fun l=>List.take 3 (List.drop 1 l)) (d4B.trans d5B)
    rw [List.drop_take,List.take_take] at q
    rw [e];exact q
  have d7B:jl*5+1+3<=s.np*5:=by omega
  have x1B:(0:Int)<=(l:Int):=by omega
  have x2B:(l:Int)<(s.nx:Int):=by omega
  have x3B:l*13+13<=s.nx*13:=by omega
  have x4B:(Jb6 s.nx (xC s))[l*13+1]?=some (.int .i64 (s.xp l)):=Jh0 (w:=13) (F:=xC s) (fun _=>rfl) hiB (a:=1) (by omega)
  have hv:Jm3 (Jd2 s f) k d h hi t9=Je1 (Je2 (s.pc jh) (s.pc jl)) (Jd8 rc (ofI (lm.length:Int))):=by
    unfold Jm3
    rw [hwl,if_neg h0,hli,if_neg h1,if_neg (by rw [<-hQ9,<-hrc];exact h2),if_neg (by rw [<-hG9,hG0];exact hb0),<-hQ9,<-hrc]
    show Je1 (Je2 (s.pc (s.xp hi).toNat) (s.pc (s.xp l).toNat)) _=_
    rw [<-hjA,<-hjB]
  rw [hv] at hQ
  refine AW.rg ?_
  have U4:=ca4 U2 e1 e2 (ca4 hz9 e3 hxjA (ca4 d1A d2A d3A (ca4 d4A d5A d6A (ca4 d7A x1A x2A (ca4 x3A x4A hjnA (ca4 hiA hxjB d1B (ca4 d2B d3B d4B (ca4 d5B d6B d7B (ca4 x1B x2B x3B (ca3 x4B hjnB hiB))))))))))
  simp only [push_cast,simprocAttr,scC,hdC,tlC,c3C,htC,kyC,Jm8,U4]
  refine CThen.by ((by have h9:=fun M hb=>Kj2 r9 (mvS s f) lr lv s.nx 1024 FA M hb (by have:=hG.nx;omega);rw [hGf,hG0,hr8] at h9;exact h9 _ ⟨_,_,Ja8 hs _⟩)) ?_
  simp only [push_cast,simprocAttr,scC,hdC,tlC,c3C,htC,kyC,Jm8,U4]
  apply hK;clear hK
  refine AW.q fun K hK=>?_
  refine AW.sr 1 fun K hK=>?_
  simp only [push_cast,simprocAttr,scC,hdC,tlC,c3C,htC,kyC,Jm8,U4]
  apply hK;clear hK
  apply AW.x rfl
  apply AW.z
  apply hK;clear hK
  refine AW.q fun K hK=>?_
  refine AW.draw [.val,.rd 0,.val,.rd 0,.val,.rd 0,.val,.val,.rd 0,.val,.val,.rd 0,.val,.rd 0,.val,.rd 0,.val,.val,.val,.rd 0,.val,.val,.rd 0,.ext,.fl,.wr] fol (by decide) (by kernel_rfl) ?_
  simp only [push_cast,simprocAttr,scC,hdC,tlC,c3C,htC,kyC,Jm8,U4]
  refine DCall.z (Jz5 (s.pc jh) (s.pc jl) _) ?_
  simp only [push_cast,simprocAttr,scC,hdC,tlC,c3C,htC,kyC,Jm8,U4]
  apply hK;clear hK
  refine AW.q fun K hK=>?_
  refine AW.draw [.rd 0,.val,.val,.val,.ext,.ext,.ext,.wr] fol (by decide) (by kernel_rfl) ?_
  simp only [push_cast,simprocAttr,scC,hdC,tlC,c3C,htC,kyC,Jm8,U4]
  refine DCall.z (Qv4 _ _) ?_
  simp only [push_cast,simprocAttr,scC,hdC,tlC,c3C,htC,kyC,Jm8,U4]
  refine DCall.z (Jg3 _ _ _) ?_
  simp only [push_cast,simprocAttr,scC,hdC,tlC,c3C,htC,kyC,Jm8,U4]
  refine DCall.z (Kx2 (Je2 (s.pc jh) (s.pc jl)) (Jd8 rc (ofI (lm.length:Int))) _) ?_
  simp only [push_cast,simprocAttr,scC,hdC,tlC,c3C,htC,kyC,Jm8,U4]
  apply hK;clear hK
  refine AW.ret ?_
  refine hQ _ _ _ ?_
  first|refine RetP.drop0 (by first|exact Or.inr rfl|exact Or.inl rfl) ?_ ?_ hwf|refine RetP.drop (by first|exact Or.inr rfl|exact Or.inl rfl) ?_ ?_ hwf
  · (simp only [Jd3,Ja7,Jb5,AV.tv,push_cast,simprocAttr])<;>rfl
  rfl
 have hz9:(Jf0 r9 (mvS s f) (some (u9,j9))).i=(j9:Int):=rfl
 have e3:((j9:Int) !=(l:Int))=true:=by simp;omega
 have hv:Jm3 (Jd2 s f) k d h hi t9=z0V:=by unfold Jm3;rw [hwl,if_neg h0,hli,if_neg h1,if_neg (by rw [<-hQ9,<-hrc];exact h2),if_pos (by rw [<-hG9,hG0];show (!(j9 ==l))=true;simpa using h3)]
 rw [hv] at hQ
 refine AW.rg ?_
 have U5:=ca4 U2 e1 e2 (ca2 hz9 e3)
 simp only [push_cast,simprocAttr,scC,hdC,tlC,c3C,htC,kyC,Jm8,z0V,U5]
 refine CThen.by ((by have h9:=fun M hb=>Kj2 r9 (mvS s f) lr lv s.nx 1024 FA M hb (by have:=hG.nx;omega);rw [hGf,hG0,hr8] at h9;exact h9 _ ⟨_,_,Ja8 hs _⟩)) ?_
 simp only [push_cast,simprocAttr,scC,hdC,tlC,c3C,htC,kyC,Jm8,z0V,U5]
 apply hK;clear hK
 refine AW.q fun K hK=>?_
 refine AW.sr 1 fun K hK=>?_
 simp only [push_cast,simprocAttr,scC,hdC,tlC,c3C,htC,kyC,Jm8,z0V,U5]
 apply hK;clear hK
 apply AW.y rfl
 refine AW.sr 1 fun K hK=>?_
 simp only [push_cast,simprocAttr,scC,hdC,tlC,c3C,htC,kyC,Jm8,z0V,U5]
 apply hK;clear hK
 refine AW.ret ?_
 apply Jc9
 refine hQ _ _ _ ?_
 first|refine RetP.drop0 (by first|exact Or.inr rfl|exact Or.inl rfl) ?_ ?_ hwf|refine RetP.drop (by first|exact Or.inr rfl|exact Or.inl rfl) ?_ ?_ hwf
 · (simp only [Jd3,Ja7,Jb5,AV.tv,push_cast,simprocAttr])<;>rfl
 rfl
structure QT where
 (b:Nat) (s:TS)
noncomputable def Jj3 (s:SC)(f:Int)(a b:VW)(x y sm:Int):SN:=Jv3 (Jd2 s f) (Qh8 s f x y sm) s.dp.toNat 0 ⟨Kw3 ((Qh8 s f x y sm).u 2),fun _=>65536,true,Ve1 (Xb6 a b ((Qh8 s f x y sm).u 2)) x y ((Qh8 s f x y sm).u 0) ((Qh8 s f x y sm).u 1) ((Qh8 s f x y sm).u 2)⟩
theorem Jz9 (k:KY)(i:Int)(m:Ja1):Ctr Tryz.prog 47 [.agg (kyC k),.one (.int .i64 i)] m (.one (.int .i64 (k.u i))) m:=Vb4 k.sd k.fr k.px k.sm i m
theorem Ju5 (k:KY)(i:Int)(m:Ja1):Ctr Tryz.prog 57 [.agg (kyC k),.one (.int .i64 i)] m (.one (.int .i64 (k.u i))) m:=Qc4 k.sd k.fr k.px k.sm i m
theorem Qb4 (s:SC)(R:RWs)(f:Int)(E:SE)(a b:VW)(p:Nat)(x y sm:Int)(m:Ja1)(hS:SetAt m p s R f E a b)(hx0:0<=x)(hx1:x<s.w)(hy0:0<=y)(hy1:y<s.h):Ctr Tryz.prog 13 [.one (.ptr p 0 0),.one (.int .i64 x),.one (.int .i64 y),.one (.int .i64 sm)] m (.agg (snC (Jj3 s f a b x y sm))) m:=by
 refine Ctr.en Tryz.func13 [.cell 8 61] 232 fun hwf Q hQ=>?_
 have hps:=hS.hp
 have lps:=Jb4 hps
 have hG:=hS.g
 have hFi:=hS.hF
 have hgw:=hG.w
 have hgh:=hG.h
 have hgd:=hG.dp
 have h1:¬x<0:=by omega
 have h2:¬s.w<=x:=by omega
 have h3:¬y<0:=by omega
 have h4:¬s.h<=y:=by omega
 have hm1:0<=y*s.w:=Int.mul_nonneg (by omega) (by omega)
 have hm2:y*s.w<=64*64:=Int.mul_le_mul (by omega) (by omega) (by omega) (by omega)
 obtain ⟨yw,hyw⟩:∃ z,y*s.w=z:=⟨_,rfl⟩
 rw [hyw] at hm1 hm2
 have w1:IntKind.i64.wrap yw=yw:=wi (by omega)
 have w2:IntKind.i64.wrap (yw+x)=yw+x:=wi (by omega)
 obtain ⟨R9,hR0⟩:∃ R,Jj3 s f a b x y sm=R:=⟨_,rfl⟩
 rw [hR0] at hQ
 unfold Jj3 at hR0
 obtain ⟨k,hk⟩:∃ k,Qh8 s f x y sm=k:=⟨_,rfl⟩
 rw [hk] at hR0
 have hkc:kyC k=[.int .u64 s.sd,.int .i64 f,.int .i64 (yw+x),.int .i64 sm]:=by rw [<-hk,<-hyw];rfl
 obtain ⟨pt,hpt⟩:∃ z,k.u 2=z:=⟨_,rfl⟩
 obtain ⟨u0,hu0⟩:∃ z,k.u 0=z:=⟨_,rfl⟩
 obtain ⟨u1,hu1⟩:∃ z,k.u 1=z:=⟨_,rfl⟩
 rw [hpt,hu0,hu1] at hR0
 obtain ⟨r0,hr0⟩:∃ r,Ve1 (Xb6 a b pt) x y u0 u1 pt=r:=⟨_,rfl⟩
 rw [hr0] at hR0
 have hry:ryC r0=[.int .i64 (r0.o 0),.int .i64 (r0.o 1),.int .i64 (r0.o 2),.int .i64 (r0.d 0),.int .i64 (r0.d 1),.int .i64 (r0.d 2),.int .i64 (r0.part)]:=rfl
 have hdn:((s.dp.toNat:Nat):Int)=s.dp:=Int.toNat_of_nonneg (by omega)
 have U1:=ca4 hps (Ja8 hps) @Vf6 (ca4 @Jg8 @Jg0 @Jg7 (ca4 @Ja4 @Kh7 h1 (ca4 h2 h3 h4 (ca3 hyw w1 w2))))
 refine AW.c 1 U1 Z0 ?_
 refine AW.q fun K hK=>?_
 refine AW.c 1 U1 Z0 ?_
 apply AW.x rfl
 apply AW.z
 apply hK;clear hK
 refine AW.d [.val,.val,.val,.val,.val,.rd 0,.val,.val,.val,.rd 0,.val,.val,.val,.val,.val,.val,.rd 0,.val,.val,.val,.val,.val,.ext,.wr] fol U1 Z0 ?_
 have q_1:=Jz9 k (2)
 rw [hkc,hpt] at q_1
 refine AW.c 1 U1 q_1 ?_
 have q_2:=Jz9 k (0)
 rw [hkc,hu0] at q_2
 have q_3:=Jz9 k (1)
 rw [hkc,hu1] at q_3
 have q_4:=Xh8 (Xb6 a b pt) x y u0 u1 pt
 rw [hr0,hry] at q_4
 refine AW.d [.val,.val,.val,.rd 0,.val,.val,.val,.rd 0,.val,.rd 0,.ext,.val,.val,.rd 0,.ext,.rd 0,.ext,.val,.rd 0,.ext,.fl,.wr] fol U1 (ca4 (Xn4 a b pt) q_2 q_3 q_4) ?_
 refine AW.c 1 U1 (Ku2 65536) ?_
 refine AW.q fun K hK=>?_
 refine AW.c 1 U1 Z0 ?_
 apply AW.b
 refine AW.loopK [0,8,9,10,11,12,103] (fun (q:QT)=>q.b<=s.dp.toNat/\Jv3 (Jd2 s f) k (s.dp.toNat - q.b) q.b q.s=R9) (fun (q:QT)=>[(13,.one (.bool q.s.sharp)),(104,.one (.int .i64 ((q.b:Int))))]) (fun (q:QT)=>[(m.length+2,⟨.fix,61,0,0,[.int .i64 (q.s.s.li 0),.int .i64 (q.s.s.li 1),.int .i64 (q.s.s.li 2),.int .i64 (q.s.s.dep),.int .i64 (q.s.s.no 0),.int .i64 (q.s.s.no 1),.int .i64 (q.s.s.no 2),.int .i64 (q.s.s.po 0),.int .i64 (q.s.s.po 1),.int .i64 (q.s.s.po 2),.int .i64 (q.s.s.ba 0),.int .i64 (q.s.s.ba 1),.int .i64 (q.s.s.ba 2),.int .i64 (q.s.s.sh),.int .i64 (q.s.s.pt)]⟩),(m.length+3,⟨.fix,161,0,0,[.int .i64 (q.s.r.o 0),.int .i64 (q.s.r.o 1),.int .i64 (q.s.r.o 2),.int .i64 (q.s.r.d 0),.int .i64 (q.s.r.d 1),.int .i64 (q.s.r.d 2),.int .i64 (q.s.r.part)]⟩),(m.length+4,⟨.fix,42,0,0,[.int .i64 (q.s.w 0),.int .i64 (q.s.w 1),.int .i64 (q.s.w 2)]⟩)]) (fun (q:QT)=>s.dp.toNat - q.b) ⟨0,⟨Kw3 pt,fun _=>65536,true,r0⟩⟩ ⟨Nat.zero_le _,hR0⟩ ?_ ?_ fun (q:QT) hi3=>?_
 · first|rfl|(simp only [KS,simprocAttr,Kw3,Int.natCast_zero]<;>repeat' (first|rfl|apply And.intro))
 · (simp only [Ja3,push_cast,simprocAttr,Kw3])<;>rfl
 obtain ⟨bb,⟨sn,wt,shp,rr⟩⟩:=q
 have hq:=hi3
 dsimp only at hq ⊢
 obtain ⟨hbd,hR9⟩:=hq
 try simp only [Jb2,Ja3,push_cast,simprocAttr,U1]
 refine AW.c 1 U1 Z0 ?_
 refine AW.q fun K hK=>?_
 refine AW.cond rfl (fun h105=>?_) (fun h105=>?_)
 ·have hbn:bb<s.dp.toNat:=by have:=of_decide_eq_true h105;omega
  obtain ⟨d,hd9⟩:∃ d:Int,d=3+8*(bb:Int):=⟨_,rfl⟩
  have hdp9:=hG.dp
  have wd8:IntKind.i64.wrap (8*(bb:Int))=8*(bb:Int):=wi (by omega)
  have wd9:IntKind.i64.wrap (3+8*(bb:Int))=d:=by rw [hd9];exact wi (by omega)
  have wd3:IntKind.i64.wrap (d+3)=d+3:=wi (by omega)
  have wd4:IntKind.i64.wrap (d+4)=d+4:=wi (by omega)
  have wd5:IntKind.i64.wrap (d+5)=d+5:=wi (by omega)
  have hdr:0<=d/\d<=1000:=by omega
  have hwi:IntKind.i64.wrap ((bb:Int)+1)=(bb:Int)+1:=wi (by omega)
  apply AW.z
  apply hK;clear hK
  refine AW.q fun K hK=>?_
  apply AW.b
  have U2:=ca4 U1 wd8 wd9 (ca4 wd3 wd4 wd5 hwi)
  refine AW.c 2 U2 Z0 ?_
  refine AW.q fun K hK=>?_
  rcases hF0:Jr3 (Jd2 s f) rr 1024 2147483648 with _|⟨t9,i9⟩
  ·have hz8:htC (Jf0 rr (mvS s f) none)=[.int .i64 0,.int .i64 0,.int .i64 0,.int .i64 0,.int .i64 0,.int .i64 0,.int .i64 0,.int .i64 0]:=rfl
   have hR8:R9=sn.add (Je2 wt s.sk):=by rw [<-hR9];exact Ji6 hbn (by rw [<-hd9];exact Ki1 hF0)
   have hv:snC R9=[.int .i64 (Je0 sn.li (Je2 wt s.sk) 0),.int .i64 (Je0 sn.li (Je2 wt s.sk) 1),.int .i64 (Je0 sn.li (Je2 wt s.sk) 2),.int .i64 (sn.dep),.int .i64 (sn.no 0),.int .i64 (sn.no 1),.int .i64 (sn.no 2),.int .i64 (sn.po 0),.int .i64 (sn.po 1),.int .i64 (sn.po 2),.int .i64 (sn.ba 0),.int .i64 (sn.ba 1),.int .i64 (sn.ba 2),.int .i64 (sn.sh),.int .i64 (sn.pt)]:=by rw [hR8];rfl
   rw [hv] at hQ
   have q_5:=fun L=>hFi L rr 1024 2147483648
   rw [hF0] at q_5
   have U3:=ca2 U2 hz8
   refine AW.e [.val,.val,.val,.rd 0,.rd 0,.ext,.val,.val,.val,.val,.fl,.wr,.val,.val] fol U3 q_5 ?_
   apply hK;clear hK
   refine AW.q fun K hK=>?_
   refine AW.c 1 U3 Z0 ?_
   apply AW.y rfl
   refine AW.d [.val,.rd 0,.rd 0,.val,.val,.val,.val,.val,.rd 0,.ext,.ext,.val,.wr] fol U3 (ca2 (Km2 wt s.sk) (Qj0 sn.li (Je2 wt s.sk))) ?_
   refine AW.c 1 U3 Z0 ?_
   exact AW.ret (hQ _ _ _ (RetP.z hwf Z0))
  obtain ⟨jj,hjj⟩:∃ j,j=(s.xp i9).toNat:=⟨_,rfl⟩
  have dP:pC s jj=[.int .i64 (s.pk jj),.int .i64 (s.pc jj 0),.int .i64 (s.pc jj 1),.int .i64 (s.pc jj 2),.int .i64 (s.pr jj)]:=rfl
  have hi9:i9<s.nx:=Ki4 hF0
  obtain ⟨h,hh⟩:∃ h,Kd2 (Jd2 s f) rr t9 i9=h:=⟨_,rfl⟩
  have hbh:Jf0 rr (mvS s f) (some (t9,i9))=h:=hh
  have hhi:h.i=(i9:Int):=by rw [<-hh];rfl
  have hht:htC h=[.int .i64 h.t,.int .i64 (i9:Int),.int .i64 (h.p 0),.int .i64 (h.p 1),.int .i64 (h.p 2),.int .i64 (h.n 0),.int .i64 (h.n 1),.int .i64 (h.n 2)]:=by unfold htC;rw [hhi];rfl
  obtain ⟨sn1,hsn1⟩:∃ x,Jy5 (Jd2 s f) bb sn h i9=x:=⟨_,rfl⟩
  obtain ⟨sn2,hsn2⟩:∃ x,liS (Jd2 s f) k d ⟨sn,wt,shp,rr⟩ sn1 h i9=x:=⟨_,rfl⟩
  obtain ⟨T,hT⟩:∃ x,Ka8 (Jd2 s f) k d ⟨sn,wt,shp,rr⟩ h i9=x:=⟨_,rfl⟩
  have hT1:Jq3 (s.pk jj) (s.pc jj) (s.pr jj) rr.d h.n (k.u (d+3)) (k.u (d+4))=T:=by rw [<-hT,hjj];rfl
  have hkd:(Jd2 s f).kd i9=s.pk jj:=by rw [hjj];rfl
  have hcl:(Jd2 s f).cl i9=s.pc jj:=by rw [hjj];rfl
  have hp1:sn1.pt=sn.pt:=by rw [<-hsn1];unfold Jy5;split<;>rfl
  have hp2:sn2.pt=sn.pt:=by rw [<-hp1,<-hsn2];unfold liS;split<;>rfl
  have q_6:=fun L=>hFi L rr 1024 2147483648
  rw [hF0,hbh] at q_6
  have U4:=ca4 U2 dP hhi @Ji8
  refine AW.e [.val,.val,.val,.rd 0,.rd 0,.ext,.val,.val,.val,.val,.fl,.wr,.val,.val] fol U4 q_6 ?_
  apply hK;clear hK
  refine AW.q fun K hK=>?_
  refine AW.c 1 U4 Z0 ?_
  apply AW.x rfl
  apply AW.z
  apply hK;clear hK
  have q_7:=Kj9 s R f E a b p i9
  rw [<-hjj] at q_7
  refine AW.c 1 U4 (q_7 _ (hS.app _) hi9) ?_
  refine AW.q fun K hK=>?_
  refine AW.c 1 U4 Z0 ?_
  refine AW.condJ rfl [0,8,9,10,11,12,13,14,15,16,19,103,104] [] [(m.length+2,⟨.fix,61,0,0,[.int .i64 (sn1.li 0),.int .i64 (sn1.li 1),.int .i64 (sn1.li 2),.int .i64 (sn1.dep),.int .i64 (sn1.no 0),.int .i64 (sn1.no 1),.int .i64 (sn1.no 2),.int .i64 (sn1.po 0),.int .i64 (sn1.po 1),.int .i64 (sn1.po 2),.int .i64 (sn1.ba 0),.int .i64 (sn1.ba 1),.int .i64 (sn1.ba 2),.int .i64 (sn1.sh),.int .i64 (sn1.pt)]⟩)] (fun h140=>?_) (fun h140=>?_) ?_
  ·have hb0:bb=0:=by have:=eq_of_beq h140;omega
   have X1:sn1=⟨sn.li,h.t,h.n,h.p,(Jd2 s f).cl i9,(i9:Int),sn.pt⟩:=by rw [<-hsn1];exact if_pos hb0
   rw [hcl] at X1
   have p1li0:sn1.li 0=sn.li 0:=by have q:=congrArg (fun z:SN=>z.li 0) X1;exact q
   have p1li1:sn1.li 1=sn.li 1:=by have q:=congrArg (fun z:SN=>z.li 1) X1;exact q
   have p1li2:sn1.li 2=sn.li 2:=by have q:=congrArg (fun z:SN=>z.li 2) X1;exact q
   have p1no0:sn1.no 0=h.n 0:=by have q:=congrArg (fun z:SN=>z.no 0) X1;exact q
   have p1no1:sn1.no 1=h.n 1:=by have q:=congrArg (fun z:SN=>z.no 1) X1;exact q
   have p1no2:sn1.no 2=h.n 2:=by have q:=congrArg (fun z:SN=>z.no 2) X1;exact q
   have p1po0:sn1.po 0=h.p 0:=by have q:=congrArg (fun z:SN=>z.po 0) X1;exact q
   have p1po1:sn1.po 1=h.p 1:=by have q:=congrArg (fun z:SN=>z.po 1) X1;exact q
   have p1po2:sn1.po 2=h.p 2:=by have q:=congrArg (fun z:SN=>z.po 2) X1;exact q
   have p1ba0:sn1.ba 0=s.pc jj 0:=by have q:=congrArg (fun z:SN=>z.ba 0) X1;exact q
   have p1ba1:sn1.ba 1=s.pc jj 1:=by have q:=congrArg (fun z:SN=>z.ba 1) X1;exact q
   have p1ba2:sn1.ba 2=s.pc jj 2:=by have q:=congrArg (fun z:SN=>z.ba 2) X1;exact q
   have p1dep:sn1.dep=h.t:=by have q:=congrArg (fun z:SN=>z.dep) X1;exact q
   have p1sh:sn1.sh=(i9:Int):=by have q:=congrArg (fun z:SN=>z.sh) X1;exact q
   have p1pt:sn1.pt=sn.pt:=by have q:=congrArg (fun z:SN=>z.pt) X1;exact q
   refine AW.e [.val,.rd 0,.val,.rw 0,.val,.rw 0,.val,.rw 0,.val,.rw 0,.val,.wr,.val,.wr,.val,.wr,.val,.wr,.val,.wr] fol U4 Z0 ?_
   apply Jc1
   try simp only [Jb2,Ja3,push_cast,simprocAttr,U4,p1li0,p1li1,p1li2,p1no0,p1no1,p1no2,p1po0,p1po1,p1po2,p1ba0,p1ba1,p1ba2,p1dep,p1sh,p1pt]
   exact Weak.same (by simp only [KS,simprocAttr,p1li0,p1li1,p1li2,p1no0,p1no1,p1no2,p1po0,p1po1,p1po2,p1ba0,p1ba1,p1ba2,p1dep,p1sh,p1pt]) (by first|rfl|simp only [KS,simprocAttr,p1li0,p1li1,p1li2,p1no0,p1no1,p1no2,p1po0,p1po1,p1po2,p1ba0,p1ba1,p1ba2,p1dep,p1sh,p1pt])
  ·have hb0:¬bb=0:=fun q=>by rw [q] at h140;cases h140
   have X1:sn1=sn:=by rw [<-hsn1];exact if_neg hb0
   have p1li0:sn1.li 0=sn.li 0:=by have q:=congrArg (fun z:SN=>z.li 0) X1;exact q
   have p1li1:sn1.li 1=sn.li 1:=by have q:=congrArg (fun z:SN=>z.li 1) X1;exact q
   have p1li2:sn1.li 2=sn.li 2:=by have q:=congrArg (fun z:SN=>z.li 2) X1;exact q
   have p1no0:sn1.no 0=sn.no 0:=by have q:=congrArg (fun z:SN=>z.no 0) X1;exact q
   have p1no1:sn1.no 1=sn.no 1:=by have q:=congrArg (fun z:SN=>z.no 1) X1;exact q
   have p1no2:sn1.no 2=sn.no 2:=by have q:=congrArg (fun z:SN=>z.no 2) X1;exact q
   have p1po0:sn1.po 0=sn.po 0:=by have q:=congrArg (fun z:SN=>z.po 0) X1;exact q
   have p1po1:sn1.po 1=sn.po 1:=by have q:=congrArg (fun z:SN=>z.po 1) X1;exact q
   have p1po2:sn1.po 2=sn.po 2:=by have q:=congrArg (fun z:SN=>z.po 2) X1;exact q
   have p1ba0:sn1.ba 0=sn.ba 0:=by have q:=congrArg (fun z:SN=>z.ba 0) X1;exact q
   have p1ba1:sn1.ba 1=sn.ba 1:=by have q:=congrArg (fun z:SN=>z.ba 1) X1;exact q
   have p1ba2:sn1.ba 2=sn.ba 2:=by have q:=congrArg (fun z:SN=>z.ba 2) X1;exact q
   have p1dep:sn1.dep=sn.dep:=by have q:=congrArg (fun z:SN=>z.dep) X1;exact q
   have p1sh:sn1.sh=sn.sh:=by have q:=congrArg (fun z:SN=>z.sh) X1;exact q
   have p1pt:sn1.pt=sn.pt:=by have q:=congrArg (fun z:SN=>z.pt) X1;exact q
   apply AW.z
   apply Jc1
   try simp only [Jb2,Ja3,push_cast,simprocAttr,U4,p1li0,p1li1,p1li2,p1no0,p1no1,p1no2,p1po0,p1po1,p1po2,p1ba0,p1ba1,p1ba2,p1dep,p1sh,p1pt]
   exact Weak.same (by simp only [KS,simprocAttr,p1li0,p1li1,p1li2,p1no0,p1no1,p1no2,p1po0,p1po1,p1po2,p1ba0,p1ba1,p1ba2,p1dep,p1sh,p1pt]) (by first|rfl|simp only [KS,simprocAttr,p1li0,p1li1,p1li2,p1no0,p1no1,p1no2,p1po0,p1po1,p1po2,p1ba0,p1ba1,p1ba2,p1dep,p1sh,p1pt])
  try simp only [Jb2,Ja3,push_cast,simprocAttr,U4]
  apply hK;clear hK
  refine AW.q fun K hK=>?_
  refine AW.c 1 U4 Z0 ?_
  apply AW.b
  refine AW.q fun K hK=>?_
  have hk19:(s.pk jj=3/\shp=true)\/(s.pk jj=3/\shp=false)\/¬s.pk jj=3:=by cases shp<;>simp<;>omega
  rcases hk19 with ⟨h3,hsp⟩|⟨h3,hsp⟩|h3
  ·have h3w:(Jd2 s f).kd i9=3:=hkd.trans h3
   have k3:(s.pk jj ==3)=true:=beq_iff_eq.2 h3
   subst hsp
   have hR8:R9=sn1.add (Je2 wt ((Jd2 s f).cl i9)):=by rw [<-hR9];exact Ji6 hbn (by rw [<-hd9];exact Kv9 hF0 hh hsn1 h3w rfl)
   rw [hcl] at hR8
   have hv:snC R9=[.int .i64 (Je0 sn1.li (Je2 wt (s.pc jj)) 0),.int .i64 (Je0 sn1.li (Je2 wt (s.pc jj)) 1),.int .i64 (Je0 sn1.li (Je2 wt (s.pc jj)) 2),.int .i64 (sn1.dep),.int .i64 (sn1.no 0),.int .i64 (sn1.no 1),.int .i64 (sn1.no 2),.int .i64 (sn1.po 0),.int .i64 (sn1.po 1),.int .i64 (sn1.po 2),.int .i64 (sn1.ba 0),.int .i64 (sn1.ba 1),.int .i64 (sn1.ba 2),.int .i64 (sn1.sh),.int .i64 (sn1.pt)]:=by rw [hR8];rfl
   rw [hv] at hQ
   have U5:=ca2 U4 k3
   refine AW.g U5 Z0 ?_
   apply hK;clear hK
   apply AW.y rfl
   refine AW.q fun K hK=>?_
   refine AW.c 1 U5 Z0 ?_
   apply AW.y rfl
   refine AW.e [.val,.rd 0,.rd 0,.val,.rd 0,.ext,.ext,.val,.wr] fol U5 (ca2 (Km2 wt (s.pc jj)) (Qj0 sn1.li (Je2 wt (s.pc jj)))) ?_
   apply hK;clear hK
   refine AW.c 1 U5 Z0 ?_
   exact AW.ret (hQ _ _ _ (RetP.z hwf Z0))
  ·have h3w:(Jd2 s f).kd i9=3:=hkd.trans h3
   have k3:(s.pk jj ==3)=true:=beq_iff_eq.2 h3
   subst hsp
   have hR8:R9=sn1:=by rw [<-hR9];exact Ji6 hbn (by rw [<-hd9];exact Kw0 hF0 hh hsn1 h3w rfl)
   have hv:snC R9=[.int .i64 (sn1.li 0),.int .i64 (sn1.li 1),.int .i64 (sn1.li 2),.int .i64 (sn1.dep),.int .i64 (sn1.no 0),.int .i64 (sn1.no 1),.int .i64 (sn1.no 2),.int .i64 (sn1.po 0),.int .i64 (sn1.po 1),.int .i64 (sn1.po 2),.int .i64 (sn1.ba 0),.int .i64 (sn1.ba 1),.int .i64 (sn1.ba 2),.int .i64 (sn1.sh),.int .i64 (sn1.pt)]:=by rw [hR8];rfl
   rw [hv] at hQ
   have U6:=ca2 U4 k3
   refine AW.g U6 Z0 ?_
   apply hK;clear hK
   apply AW.y rfl
   refine AW.q fun K hK=>?_
   refine AW.c 1 U6 Z0 ?_
   apply AW.x rfl
   apply AW.z
   apply hK;clear hK
   refine AW.c 1 U6 Z0 ?_
   exact AW.ret (hQ _ _ _ (RetP.z hwf Z0))
  have h3w:¬(Jd2 s f).kd i9=3:=fun q=>h3 (hkd.symm.trans q)
  have k3:(s.pk jj ==3)=false:=by simpa using h3
  have U7:=ca2 U4 k3
  refine AW.g U7 Z0 ?_
  apply hK;clear hK
  apply AW.x rfl
  refine AW.c 1 U7 Z0 ?_
  refine AW.condJ rfl [0,8,9,10,11,12,14,15,16,19,103,104] [] [(m.length+2,⟨.fix,61,0,0,[.int .i64 (sn2.li 0),.int .i64 (sn2.li 1),.int .i64 (sn2.li 2),.int .i64 (sn2.dep),.int .i64 (sn2.no 0),.int .i64 (sn2.no 1),.int .i64 (sn2.no 2),.int .i64 (sn2.po 0),.int .i64 (sn2.po 1),.int .i64 (sn2.po 2),.int .i64 (sn2.ba 0),.int .i64 (sn2.ba 1),.int .i64 (sn2.ba 2),.int .i64 (sn2.sh),.int .i64 (sn2.pt)]⟩)] (fun h170=>?_) (fun h170=>?_) ?_
  ·have hk0:s.pk jj=0:=eq_of_beq h170
   obtain ⟨lv,hlv⟩:∃ l,Jm3 (Jd2 s f) k d h i9 sn1.pt=l:=⟨_,rfl⟩
   have X2:sn2=sn1.add (Je2 wt lv):=by rw [<-hsn2,<-hlv];exact if_pos (hkd.trans hk0)
   have p2li0:sn2.li 0=Je0 sn1.li (Je2 wt lv) 0:=by have q:=congrArg (fun z:SN=>z.li 0) X2;exact q
   have p2li1:sn2.li 1=Je0 sn1.li (Je2 wt lv) 1:=by have q:=congrArg (fun z:SN=>z.li 1) X2;exact q
   have p2li2:sn2.li 2=Je0 sn1.li (Je2 wt lv) 2:=by have q:=congrArg (fun z:SN=>z.li 2) X2;exact q
   have p2no0:sn2.no 0=sn1.no 0:=by have q:=congrArg (fun z:SN=>z.no 0) X2;exact q
   have p2no1:sn2.no 1=sn1.no 1:=by have q:=congrArg (fun z:SN=>z.no 1) X2;exact q
   have p2no2:sn2.no 2=sn1.no 2:=by have q:=congrArg (fun z:SN=>z.no 2) X2;exact q
   have p2po0:sn2.po 0=sn1.po 0:=by have q:=congrArg (fun z:SN=>z.po 0) X2;exact q
   have p2po1:sn2.po 1=sn1.po 1:=by have q:=congrArg (fun z:SN=>z.po 1) X2;exact q
   have p2po2:sn2.po 2=sn1.po 2:=by have q:=congrArg (fun z:SN=>z.po 2) X2;exact q
   have p2ba0:sn2.ba 0=sn1.ba 0:=by have q:=congrArg (fun z:SN=>z.ba 0) X2;exact q
   have p2ba1:sn2.ba 1=sn1.ba 1:=by have q:=congrArg (fun z:SN=>z.ba 1) X2;exact q
   have p2ba2:sn2.ba 2=sn1.ba 2:=by have q:=congrArg (fun z:SN=>z.ba 2) X2;exact q
   have p2dep:sn2.dep=sn1.dep:=by have q:=congrArg (fun z:SN=>z.dep) X2;exact q
   have p2sh:sn2.sh=sn1.sh:=by have q:=congrArg (fun z:SN=>z.sh) X2;exact q
   have p2pt:sn2.pt=sn1.pt:=by have q:=congrArg (fun z:SN=>z.pt) X2;exact q
   have q_8:=Xo1 s R f E a b p k d h i9 sn1.pt
   rw [hkc,hlv,hht] at q_8
   refine AW.e [.val,.rd 0,.rd 0,.val,.rd 0,.val,.rd 0,.val,.rd 0,.ext,.ext,.ext,.val,.wr] fol U7 (ca3 (q_8 _ (hS.app _) hdr hhi hi9) (Km2 wt lv) (Qj0 sn1.li (Je2 wt lv))) ?_
   apply Jc1
   try simp only [Jb2,Ja3,push_cast,simprocAttr,U7,p2li0,p2li1,p2li2,p2no0,p2no1,p2no2,p2po0,p2po1,p2po2,p2ba0,p2ba1,p2ba2,p2dep,p2sh,p2pt]
   exact Weak.same (by simp only [KS,simprocAttr,p2li0,p2li1,p2li2,p2no0,p2no1,p2no2,p2po0,p2po1,p2po2,p2ba0,p2ba1,p2ba2,p2dep,p2sh,p2pt]) (by first|rfl|simp only [KS,simprocAttr,p2li0,p2li1,p2li2,p2no0,p2no1,p2no2,p2po0,p2po1,p2po2,p2ba0,p2ba1,p2ba2,p2dep,p2sh,p2pt])
  ·have hk0:¬s.pk jj=0:=fun q=>by rw [q] at h170;cases h170
   have X2:sn2=sn1:=by rw [<-hsn2];exact if_neg (fun q=>hk0 (hkd.symm.trans q))
   have p2li0:sn2.li 0=sn1.li 0:=by have q:=congrArg (fun z:SN=>z.li 0) X2;exact q
   have p2li1:sn2.li 1=sn1.li 1:=by have q:=congrArg (fun z:SN=>z.li 1) X2;exact q
   have p2li2:sn2.li 2=sn1.li 2:=by have q:=congrArg (fun z:SN=>z.li 2) X2;exact q
   have p2no0:sn2.no 0=sn1.no 0:=by have q:=congrArg (fun z:SN=>z.no 0) X2;exact q
   have p2no1:sn2.no 1=sn1.no 1:=by have q:=congrArg (fun z:SN=>z.no 1) X2;exact q
   have p2no2:sn2.no 2=sn1.no 2:=by have q:=congrArg (fun z:SN=>z.no 2) X2;exact q
   have p2po0:sn2.po 0=sn1.po 0:=by have q:=congrArg (fun z:SN=>z.po 0) X2;exact q
   have p2po1:sn2.po 1=sn1.po 1:=by have q:=congrArg (fun z:SN=>z.po 1) X2;exact q
   have p2po2:sn2.po 2=sn1.po 2:=by have q:=congrArg (fun z:SN=>z.po 2) X2;exact q
   have p2ba0:sn2.ba 0=sn1.ba 0:=by have q:=congrArg (fun z:SN=>z.ba 0) X2;exact q
   have p2ba1:sn2.ba 1=sn1.ba 1:=by have q:=congrArg (fun z:SN=>z.ba 1) X2;exact q
   have p2ba2:sn2.ba 2=sn1.ba 2:=by have q:=congrArg (fun z:SN=>z.ba 2) X2;exact q
   have p2dep:sn2.dep=sn1.dep:=by have q:=congrArg (fun z:SN=>z.dep) X2;exact q
   have p2sh:sn2.sh=sn1.sh:=by have q:=congrArg (fun z:SN=>z.sh) X2;exact q
   have p2pt:sn2.pt=sn1.pt:=by have q:=congrArg (fun z:SN=>z.pt) X2;exact q
   apply AW.z
   apply Jc1
   try simp only [Jb2,Ja3,push_cast,simprocAttr,U7,p2li0,p2li1,p2li2,p2no0,p2no1,p2no2,p2po0,p2po1,p2po2,p2ba0,p2ba1,p2ba2,p2dep,p2sh,p2pt]
   exact Weak.same (by simp only [KS,simprocAttr,p2li0,p2li1,p2li2,p2no0,p2no1,p2no2,p2po0,p2po1,p2po2,p2ba0,p2ba1,p2ba2,p2dep,p2sh,p2pt]) (by first|rfl|simp only [KS,simprocAttr,p2li0,p2li1,p2li2,p2no0,p2no1,p2no2,p2po0,p2po1,p2po2,p2ba0,p2ba1,p2ba2,p2dep,p2sh,p2pt])
  try simp only [Jb2,Ja3,push_cast,simprocAttr,U7]
  apply Ja6
  apply hK;clear hK
  have q_9:=Jz9 k (d+3)
  rw [hkc] at q_9
  have q_10:=Jz9 k (d+4)
  rw [hkc] at q_10
  have q_11:=bnc_c (s.pk jj) (s.pc jj) (s.pr jj) rr.d h.n (k.u (d+3)) (k.u (d+4))
  rw [hT1] at q_11
  unfold tnC c3C at q_11
  refine AW.d [.rd 0,.val,.rd 0,.val,.rd 0,.rd 0,.val,.val,.ext,.rd 0,.val,.val,.ext,.ext,.fl,.wr] fol U7 (ca3 q_9 q_10 q_11) ?_
  refine AW.q fun K hK=>?_
  refine AW.q fun K hK=>?_
  cases hg:T.g
  ·have hR8:R9=sn2:=by rw [<-hR9];exact Ji6 hbn (by rw [<-hd9];exact Kv8 hF0 hh hsn1 hsn2 hT h3w hg)
   have hv:snC R9=[.int .i64 (sn2.li 0),.int .i64 (sn2.li 1),.int .i64 (sn2.li 2),.int .i64 (sn2.dep),.int .i64 (sn2.no 0),.int .i64 (sn2.no 1),.int .i64 (sn2.no 2),.int .i64 (sn2.po 0),.int .i64 (sn2.po 1),.int .i64 (sn2.po 2),.int .i64 (sn2.ba 0),.int .i64 (sn2.ba 1),.int .i64 (sn2.ba 2),.int .i64 (sn2.sh),.int .i64 (sn2.pt)]:=by rw [hR8];rfl
   rw [hv] at hQ
   have U8:=ca2 U7 hg
   refine AW.g U8 Z0 ?_
   apply hK;clear hK
   apply AW.y rfl
   refine AW.c 1 U8 Z0 ?_
   exact AW.ret (hQ _ _ _ (RetP.z hwf Z0))
  skip
  have U9:=ca2 U7 hg
  refine AW.g U9 Z0 ?_
  apply hK;clear hK
  apply AW.x rfl
  apply AW.z
  apply hK;clear hK
  refine AW.d [.rd 0,.val,.rd 0,.ext,.val,.rw 0,.wr,.val] fol U9 (Km2 wt T.l) ?_
  refine AW.q fun K hK=>?_
  refine AW.q fun K hK=>?_
  have hk29:bb=0\/(¬bb=0/\Kt6 (Je2 wt T.l)<=Jb9 (k.u (d+5)))\/(¬bb=0/\¬Kt6 (Je2 wt T.l)<=Jb9 (k.u (d+5))):=by
    by_cases q1:bb=0
    · exact .inl q1
    by_cases q2:Kt6 (Je2 wt T.l)<=Jb9 (k.u (d+5))
    · exact .inr (.inl ⟨q1,q2⟩)
    exact .inr (.inr ⟨q1,q2⟩)
  rcases hk29 with hb0|⟨hb0,hl9⟩|⟨hb0,hl9⟩
  ·have e9:¬(0:Int)<(bb:Int):=by omega
   have hNx:bb+1<=s.dp.toNat/\Jv3 (Jd2 s f) k (s.dp.toNat - (bb+1)) (bb+1) ⟨sn2,Je2 wt T.l,T.s,⟨h.p,T.d,sn.pt⟩⟩=R9:=⟨hbn,by rw [<-hR9];exact (Kb0 hbn (by rw [<-hd9];exact Qf4 hF0 hh hsn1 hsn2 hT h3w hg hb0)).symm⟩
   have hmu:s.dp.toNat - (bb+1)<s.dp.toNat - bb:=by omega
   have U10:=ca2 U9 e9
   refine AW.g U10 Z0 ?_
   apply hK;clear hK
   apply AW.x rfl
   apply AW.z
   apply hK;clear hK
   refine AW.g U10 Z0 ?_
   apply Ja6
   apply hK;clear hK
   refine AW.g U10 Z0 ?_
   apply Jc1
   refine ⟨⟨bb+1,⟨sn2,Je2 wt T.l,T.s,⟨h.p,T.d,sn.pt⟩⟩⟩,hNx,hmu,?_⟩
   try simp only [Jb2,Ja3,push_cast,simprocAttr,U10,hwi,hp2,Int.natCast_add,Int.natCast_one]
   exact Weak.to (extra:=_) (by simp only [KS,simprocAttr,hwi,hp2,Int.natCast_add,Int.natCast_one]) (by first|rfl|(simp only [List.append_assoc,List.cons_append,List.nil_append];rfl)) (by first|rfl|(simp [AV.below,CV.below];done)|(simp [AV.below,CV.below];omega)) (by exact MWf.app (hwf.grow (by simp)) (Ja0 rfl (Ja0 rfl (Ja0 rfl (Ja0 rfl (Ja0 rfl Jb8))))))
  ·have e9:(0:Int)<(bb:Int):=by omega
   have hR8:R9=sn2:=by rw [<-hR9];exact Ji6 hbn (by rw [<-hd9];exact Kw1 hF0 hh hsn1 hsn2 hT h3w hg hb0 hl9)
   have hv:snC R9=[.int .i64 (sn2.li 0),.int .i64 (sn2.li 1),.int .i64 (sn2.li 2),.int .i64 (sn2.dep),.int .i64 (sn2.no 0),.int .i64 (sn2.no 1),.int .i64 (sn2.no 2),.int .i64 (sn2.po 0),.int .i64 (sn2.po 1),.int .i64 (sn2.po 2),.int .i64 (sn2.ba 0),.int .i64 (sn2.ba 1),.int .i64 (sn2.ba 2),.int .i64 (sn2.sh),.int .i64 (sn2.pt)]:=by rw [hR8];rfl
   rw [hv] at hQ
   have U11:=ca2 U9 e9
   refine AW.g U11 Z0 ?_
   apply hK;clear hK
   apply AW.y rfl
   have q_12:=Jz9 k (d+5)
   rw [hkc] at q_12
   refine AW.d [.rd 0,.rd 0,.val,.val,.ext,.ext,.val,.val,.val,.wr,.val] fol U11 (ca2 q_12 (Xc1 (Je2 wt T.l) (k.u (d+5)) _ hl9)) ?_
   refine AW.c 1 U11 Z0 ?_
   apply AW.y rfl
   refine AW.c 1 U11 Z0 ?_
   exact AW.ret (hQ _ _ _ (RetP.z hwf Z0))
  have e9:(0:Int)<(bb:Int):=by omega
  have hNx:bb+1<=s.dp.toNat/\Jv3 (Jd2 s f) k (s.dp.toNat - (bb+1)) (bb+1) ⟨sn2,Jn1 (Je2 wt T.l) (k.u (d+5)),T.s,⟨h.p,T.d,sn.pt⟩⟩=R9:=⟨hbn,by rw [<-hR9];exact (Kb0 hbn (by rw [<-hd9];exact Qt3 hF0 hh hsn1 hsn2 hT h3w hg hb0 hl9)).symm⟩
  have hmu:s.dp.toNat - (bb+1)<s.dp.toNat - bb:=by omega
  have U12:=ca2 U9 e9
  refine AW.g U12 Z0 ?_
  apply hK;clear hK
  apply AW.y rfl
  have q_13:=Jz9 k (d+5)
  rw [hkc] at q_13
  refine AW.d [.rd 0,.rd 0,.val,.val,.ext,.ext,.val,.val,.val,.wr,.val] fol U12 (ca2 q_13 (Xc2 (Je2 wt T.l) (k.u (d+5)) _ hl9)) ?_
  refine AW.c 1 U12 Z0 ?_
  apply AW.x rfl
  apply AW.z
  apply hK;clear hK
  refine AW.g U12 Z0 ?_
  apply Ja6
  apply hK;clear hK
  refine AW.g U12 Z0 ?_
  apply Jc1
  refine ⟨⟨bb+1,⟨sn2,Jn1 (Je2 wt T.l) (k.u (d+5)),T.s,⟨h.p,T.d,sn.pt⟩⟩⟩,hNx,hmu,?_⟩
  try simp only [Jb2,Ja3,push_cast,simprocAttr,U12,hwi,hp2,Int.natCast_add,Int.natCast_one]
  exact Weak.to (extra:=_) (by simp only [KS,simprocAttr,hwi,hp2,Int.natCast_add,Int.natCast_one]) (by first|rfl|(simp only [List.append_assoc,List.cons_append,List.nil_append];rfl)) (by first|rfl|(simp [AV.below,CV.below];done)|(simp [AV.below,CV.below];omega)) (by exact MWf.app (hwf.grow (by simp)) (Ja0 rfl (Ja0 rfl (Ja0 rfl (Ja0 rfl (Ja0 rfl Jb8))))))
 have hbn:¬bb<s.dp.toNat:=by have:=of_decide_eq_false h105;omega
 have hbe:bb=s.dp.toNat:=by omega
 have hR8:R9=sn:=by rw [<-hR9];exact Kv6 (by omega)
 have hv:snC R9=[.int .i64 (sn.li 0),.int .i64 (sn.li 1),.int .i64 (sn.li 2),.int .i64 (sn.dep),.int .i64 (sn.no 0),.int .i64 (sn.no 1),.int .i64 (sn.no 2),.int .i64 (sn.po 0),.int .i64 (sn.po 1),.int .i64 (sn.po 2),.int .i64 (sn.ba 0),.int .i64 (sn.ba 1),.int .i64 (sn.ba 2),.int .i64 (sn.sh),.int .i64 (sn.pt)]:=by rw [hR8];rfl
 rw [hv] at hQ
 apply AW.v
 apply Jb0
 clear hK
 apply Jb0
 apply Ja5
 apply hK;clear hK
 refine AW.c 1 U1 Z0 ?_
 exact AW.ret (hQ _ _ _ (RetP.z hwf Z0))
theorem Vh2 (s:SC)(R:RWs)(f x y sm:Int)(m:Ja1)(hR:ScR 138 143 285 146 150 m s R)(hG:GoS s)(hT:∀ i,i<s.nt->TrS s i)(hJ:∀ i,i<s.nj->JoR s i)(hX:∀ i,i<s.nx->-1<=s.xj i/\s.xj i<(s.nj:Int))(hE:s.ey<(s.nt:Int))(hL:s.lk<(s.nt:Int))(hf:0<=f/\f<=1000000)(hx0:0<=x)(hx1:x<s.w)(hy0:0<=y)(hy1:y<s.h):Ctr Tryz.prog 14 [.agg (scC s R),.one (.int .i64 f),.one (.int .i64 x),.one (.int .i64 y),.one (.int .i64 sm)] m (.agg (snC (Jj3 s f (Jn8 s (f*65536)) (Jn8 s (f*65536+s.sh)) x y sm))) m:=by
 refine Ctr.en Tryz.func14 [.cell 10 56] 203 fun hwf Q hQ=>?_
 obtain ⟨kp,ep,hp⟩:=hR.hp
 have lp:=Jb4 hp
 obtain ⟨kx,ex,hx⟩:=hR.hx
 have lx:=Jb4 hx
 have np:=hR.np
 have nx:=hR.nx
 have pl:(Jb6 s.np (pC s)).length=s.np*5:=Ja9 (w:=5) (F:=pC s) (fun _=>rfl) _
 have xl:(Jb6 s.nx (xC s)).length=s.nx*13:=Ja9 (w:=13) (F:=xC s) (fun _=>rfl) _
 have sc:(Jb6 s.nx (mvF s f)).length=s.nx*24:=Ja9 (w:=24) (F:=mvF s f) (fun _=>rfl) _
 have hgw:=hG.w
 have hgh:=hG.h
 have hgd:=hG.dp
 have hgx:=hG.nx
 have hm1:0<=y*s.w:=Int.mul_nonneg (by omega) (by omega)
 have hm2:y*s.w<=64*64:=Int.mul_le_mul (by omega) (by omega) (by omega) (by omega)
 obtain ⟨yw,hyw⟩:∃ z,y*s.w=z:=⟨_,rfl⟩
 rw [hyw] at hm1 hm2
 have w1:IntKind.i64.wrap yw=yw:=wi (by omega)
 have w2:IntKind.i64.wrap (yw+x)=yw+x:=wi (by omega)
 have w3:IntKind.i64.wrap (f*65536)=f*65536:=wi (by omega)
 have w4:IntKind.i64.wrap (f*65536+s.sh)=f*65536+s.sh:=wi (by have:=hG.sh;omega)
 have hsh:=hG.sh
 obtain ⟨A,hA⟩:∃ A,Jn8 s (f*65536)=A:=⟨_,rfl⟩
 obtain ⟨B,hB⟩:∃ B,Jn8 s (f*65536+s.sh)=B:=⟨_,rfl⟩
 rw [hA,hB] at hQ
 obtain ⟨R9,hR0⟩:∃ R,Jj3 s f A B x y sm=R:=⟨_,rfl⟩
 rw [hR0] at hQ
 unfold Jj3 at hR0
 obtain ⟨k,hk⟩:∃ k,Qh8 s f x y sm=k:=⟨_,rfl⟩
 rw [hk] at hR0
 have hkc:kyC k=[.int .u64 s.sd,.int .i64 f,.int .i64 (yw+x),.int .i64 sm]:=by rw [<-hk,<-hyw];rfl
 obtain ⟨pt,hpt⟩:∃ z,k.u 2=z:=⟨_,rfl⟩
 obtain ⟨u0,hu0⟩:∃ z,k.u 0=z:=⟨_,rfl⟩
 obtain ⟨u1,hu1⟩:∃ z,k.u 1=z:=⟨_,rfl⟩
 rw [hpt,hu0,hu1] at hR0
 obtain ⟨VV,hVV⟩:∃ v,Xb6 A B pt=v:=⟨_,rfl⟩
 rw [hVV] at hR0
 obtain ⟨r0,hr0⟩:∃ r,Ve1 VV x y u0 u1 pt=r:=⟨_,rfl⟩
 rw [hr0] at hR0
 have hry:ryC r0=[.int .i64 (r0.o 0),.int .i64 (r0.o 1),.int .i64 (r0.o 2),.int .i64 (r0.d 0),.int .i64 (r0.d 1),.int .i64 (r0.d 2),.int .i64 (r0.part)]:=rfl
 have hdn:((s.dp.toNat:Nat):Int)=s.dp:=Int.toNat_of_nonneg (by omega)
 have q_1:=Ju5 k (2)
 rw [hkc,hpt] at q_1
 have U1:=ca4 hp (Ja8 hp) hx (ca4 (Ja8 hx) pl xl (ca4 sc @Jg8 @Jg0 (ca4 @Jg7 @Ja4 @Kh7 (ca4 hyw w1 w2 (ca2 w3 w4)))))
 refine AW.c 5 U1 (ca2 (Vh8 s R f _ (hR.app _) hT hJ hX hf hsh (by omega)) q_1) ?_
 have q_2:=fun M hR=>Qu2 s R (f*65536) M hR hT hE hL
 rw [hA] at q_2
 have q_3:=fun M hR=>Qu2 s R (f*65536+s.sh) M hR hT hE hL
 rw [hB] at q_3
 have q_4:=Vx1 A B pt
 rw [hVV] at q_4
 refine AW.d [.rd 0,.val,.ext,.rd 0,.val,.val,.val,.rd 0,.val,.ext,.val,.ext,.fl,.wr] fol U1 (ca3 (q_2 _ (hR.app _)) (q_3 _ (hR.app _)) q_4) ?_
 have q_5:=Ju5 k (0)
 rw [hkc,hu0] at q_5
 have q_6:=Ju5 k (1)
 rw [hkc,hu1] at q_6
 have q_7:=Vv1 VV x y u0 u1 pt
 rw [hr0,hry] at q_7
 refine AW.d [.rd 0,.val,.val,.rd 0,.ext,.rd 0,.ext,.val,.ext,.fl,.wr] fol U1 (ca3 q_5 q_6 q_7) ?_
 refine AW.c 3 U1 Z0 ?_
 refine AW.q fun K hK=>?_
 refine AW.c 1 U1 Z0 ?_
 apply AW.b
 refine AW.loopK [5,10,11,12,13,16,17,18] (fun (q:QT)=>q.b<=s.dp.toNat/\Jv3 (Jd2 s f) k (s.dp.toNat - q.b) q.b q.s=R9/\q.s.s.pt=pt) (fun (q:QT)=>[(19,.one (.bool q.s.sharp)),(20,.one (.int .i64 ((q.b:Int))))]) (fun (q:QT)=>[(m.length+5,⟨.fix,180,0,0,[.int .i64 (q.s.r.o 0),.int .i64 (q.s.r.o 1),.int .i64 (q.s.r.o 2),.int .i64 (q.s.r.d 0),.int .i64 (q.s.r.d 1),.int .i64 (q.s.r.d 2),.int .i64 (q.s.r.part)]⟩),(m.length+6,⟨.fix,56,0,0,[.int .i64 (q.s.s.li 0),.int .i64 (q.s.s.li 1),.int .i64 (q.s.s.li 2),.int .i64 (q.s.s.dep),.int .i64 (q.s.s.no 0),.int .i64 (q.s.s.no 1),.int .i64 (q.s.s.no 2),.int .i64 (q.s.s.po 0),.int .i64 (q.s.s.po 1),.int .i64 (q.s.s.po 2),.int .i64 (q.s.s.ba 0),.int .i64 (q.s.s.ba 1),.int .i64 (q.s.s.ba 2),.int .i64 (q.s.s.sh),.int .i64 (q.s.s.pt)]⟩),(m.length+7,⟨.fix,24,0,0,[.int .i64 (q.s.w 0),.int .i64 (q.s.w 1),.int .i64 (q.s.w 2)]⟩)]) (fun (q:QT)=>s.dp.toNat - q.b) ⟨0,⟨Kw3 pt,fun _=>65536,true,r0⟩⟩ ⟨Nat.zero_le _,hR0,rfl⟩ ?_ ?_ fun (q:QT) hi2=>?_
 · first|rfl|(simp only [KS,simprocAttr,Kw3,Int.natCast_zero]<;>repeat' (first|rfl|apply And.intro))
 · (simp only [Ja3,push_cast,simprocAttr,Kw3])<;>rfl
 obtain ⟨bb,⟨sn,wt,shp,rr⟩⟩:=q
 have hq:=hi2
 dsimp only at hq ⊢
 obtain ⟨hbd,hR9,hpt9⟩:=hq
 try simp only [Jb2,Ja3,push_cast,simprocAttr,U1]
 refine AW.q fun K hK=>?_
 refine AW.c 1 U1 Z0 ?_
 refine AW.cond rfl (fun h76=>?_) (fun h76=>?_)
 ·have hbn:bb<s.dp.toNat:=by have:=of_decide_eq_true h76;omega
  obtain ⟨d,hd9⟩:∃ d:Int,d=3+8*(bb:Int):=⟨_,rfl⟩
  have hdp9:=hG.dp
  have wd8:IntKind.i64.wrap (8*(bb:Int))=8*(bb:Int):=wi (by omega)
  have wd9:IntKind.i64.wrap (3+8*(bb:Int))=d:=by rw [hd9];exact wi (by omega)
  have wd3:IntKind.i64.wrap (d+3)=d+3:=wi (by omega)
  have wd4:IntKind.i64.wrap (d+4)=d+4:=wi (by omega)
  have wd5:IntKind.i64.wrap (d+5)=d+5:=wi (by omega)
  have hdr:0<=d/\d<=1000:=by omega
  have hwi:IntKind.i64.wrap ((bb:Int)+1)=(bb:Int)+1:=wi (by omega)
  apply AW.z
  apply hK;clear hK
  refine AW.q fun K hK=>?_
  apply AW.b
  have U2:=ca4 U1 wd8 wd9 (ca4 wd3 wd4 wd5 hwi)
  refine AW.c 1 U2 Z0 ?_
  refine AW.q fun K hK=>?_
  rcases hF0:Jr3 (Jd2 s f) rr 1024 2147483648 with _|⟨t9,i9⟩
  ·have hz8:htC (Jf0 rr (mvS s f) none)=[.int .i64 0,.int .i64 0,.int .i64 0,.int .i64 0,.int .i64 0,.int .i64 0,.int .i64 0,.int .i64 0]:=rfl
   have hR8:R9=sn.add (Je2 wt s.sk):=by rw [<-hR9];exact Ji6 hbn (by rw [<-hd9];exact Ki1 hF0)
   have hv:snC R9=[.int .i64 (Je0 sn.li (Je2 wt s.sk) 0),.int .i64 (Je0 sn.li (Je2 wt s.sk) 1),.int .i64 (Je0 sn.li (Je2 wt s.sk) 2),.int .i64 (sn.dep),.int .i64 (sn.no 0),.int .i64 (sn.no 1),.int .i64 (sn.no 2),.int .i64 (sn.po 0),.int .i64 (sn.po 1),.int .i64 (sn.po 2),.int .i64 (sn.ba 0),.int .i64 (sn.ba 1),.int .i64 (sn.ba 2),.int .i64 (sn.sh),.int .i64 (sn.pt)]:=by rw [hR8];rfl
   rw [hv] at hQ
   refine AW.rg ?_
   simp only [push_cast,simprocAttr,U2,hz8]
   refine CThen.by ((by have h9:=fun M hb=>Kj2 rr (mvS s f) (m.length+2) 0 s.nx 1024 2147483648 M hb (by omega);rw [show Jg9 (Hq rr (mvS s f) 1024 2147483648) s.nx=_ from hF0] at h9;exact h9 _ ⟨.grow,24,by rw [Jf8];rfl⟩)) ?_
   simp only [push_cast,simprocAttr,U2,hz8]
   apply hK;clear hK
   refine AW.q fun K hK=>?_
   have U3:=ca2 U2 hz8
   refine AW.c 1 U3 Z0 ?_
   apply AW.y rfl
   refine AW.d [.val,.rd 0,.rd 0,.val,.val,.rd 0,.ext,.ext,.val,.wr] fol U3 (ca2 (Jz5 wt s.sk) (Qc2 sn.li (Je2 wt s.sk))) ?_
   refine AW.c 1 U3 Z0 ?_
   exact AW.ret (hQ _ _ _ (RetP.z hwf Z0))
  obtain ⟨jj,hjj⟩:∃ j,j=(s.xp i9).toNat:=⟨_,rfl⟩
  have dP:pC s jj=[.int .i64 (s.pk jj),.int .i64 (s.pc jj 0),.int .i64 (s.pc jj 1),.int .i64 (s.pc jj 2),.int .i64 (s.pr jj)]:=rfl
  have hi9:i9<s.nx:=Ki4 hF0
  obtain ⟨h,hh⟩:∃ h,Kd2 (Jd2 s f) rr t9 i9=h:=⟨_,rfl⟩
  have hbh:Jf0 rr (mvS s f) (some (t9,i9))=h:=hh
  have hhi:h.i=(i9:Int):=by rw [<-hh];rfl
  have hht:htC h=[.int .i64 h.t,.int .i64 (i9:Int),.int .i64 (h.p 0),.int .i64 (h.p 1),.int .i64 (h.p 2),.int .i64 (h.n 0),.int .i64 (h.n 1),.int .i64 (h.n 2)]:=by unfold htC;rw [hhi];rfl
  obtain ⟨sn1,hsn1⟩:∃ x,Jy5 (Jd2 s f) bb sn h i9=x:=⟨_,rfl⟩
  obtain ⟨sn2,hsn2⟩:∃ x,liS (Jd2 s f) k d ⟨sn,wt,shp,rr⟩ sn1 h i9=x:=⟨_,rfl⟩
  obtain ⟨T,hT⟩:∃ x,Ka8 (Jd2 s f) k d ⟨sn,wt,shp,rr⟩ h i9=x:=⟨_,rfl⟩
  have hT1:Jq3 (s.pk jj) (s.pc jj) (s.pr jj) rr.d h.n (k.u (d+3)) (k.u (d+4))=T:=by rw [<-hT,hjj];rfl
  have hkd:(Jd2 s f).kd i9=s.pk jj:=by rw [hjj];rfl
  have hcl:(Jd2 s f).cl i9=s.pc jj:=by rw [hjj];rfl
  have hp1:sn1.pt=sn.pt:=by rw [<-hsn1];unfold Jy5;split<;>rfl
  have hp2:sn2.pt=sn.pt:=by rw [<-hp1,<-hsn2];unfold liS;split<;>rfl
  have hiA:=hi9
  have hxjA:s.xp i9=(jj:Int):=by have:=hG.xp i9 hiA;omega
  have hjnA:jj<s.np:=by have:=hG.xp i9 hiA;omega
  have d1A:(0:Int)<=(jj:Int):=by omega
  have d2A:(jj:Int)<(s.np:Int):=by omega
  have d3A:jj*5+5<=s.np*5:=by omega
  have d4A:=Jc0 (w:=5) (F:=pC s) (fun _=>rfl) hjnA
  have d5A:pC s jj=[.int .i64 (s.pk jj),.int .i64 (s.pc jj 0),.int .i64 (s.pc jj 1),.int .i64 (s.pc jj 2),.int .i64 (s.pr jj)]:=rfl
  have d6A:List.take 3 (List.drop (jj*5+1) (Jb6 s.np (pC s)))=[.int .i64 (s.pc jj 0),.int .i64 (s.pc jj 1),.int .i64 (s.pc jj 2)]:=by
    have e:(Jb6 s.np (pC s)).drop (jj*5+1)=((Jb6 s.np (pC s)).drop (jj*5)).drop 1:=by rw [List.drop_drop]
    have q:=congrArg (fun l=>List.take 3 (List.drop 1 l)) (d4A.trans d5A)
    rw [List.drop_take,List.take_take] at q
    rw [e];exact q
  have d7A:jj*5+1+3<=s.np*5:=by omega
  have x1A:(0:Int)<=(i9:Int):=by omega
  have x2A:(i9:Int)<(s.nx:Int):=by omega
  have x3A:i9*13+13<=s.nx*13:=by omega
  have x4A:(Jb6 s.nx (xC s))[i9*13+1]?=some (.int .i64 (s.xp i9)):=Jh0 (w:=13) (F:=xC s) (fun _=>rfl) hiA (a:=1) (by omega)
  refine AW.rg ?_
  have U4:=ca4 U2 dP hhi (ca4 hxjA d1A d2A (ca4 d3A d4A d5A (ca4 d6A d7A x1A (ca4 x2A x3A x4A (ca2 hjnA hiA)))))
  simp only [push_cast,simprocAttr,htC,U4]
  refine CThen.by ((by have h9:=fun M hb=>Kj2 rr (mvS s f) (m.length+2) 0 s.nx 1024 2147483648 M hb (by omega);rw [show Jg9 (Hq rr (mvS s f) 1024 2147483648) s.nx=_ from hF0,hbh] at h9;exact h9 _ ⟨.grow,24,by rw [Jf8];rfl⟩)) ?_
  simp only [push_cast,simprocAttr,htC,U4]
  apply hK;clear hK
  refine AW.q fun K hK=>?_
  have U5:=ca2 @Ji8 U4
  refine AW.c 1 U5 Z0 ?_
  apply AW.x rfl
  apply AW.z
  apply hK;clear hK
  refine AW.d [.val,.rd 0,.val,.rd 0,.val,.rd 0,.val,.val,.rd 0,.val,.rd 0,.ext,.wr] fol U5 Z0 ?_
  refine AW.q fun K hK=>?_
  refine AW.c 1 U5 Z0 ?_
  refine AW.condJ rfl [5,10,11,12,13,16,17,18,19,20,21,22,24] [] [(m.length+6,⟨.fix,56,0,0,[.int .i64 (sn1.li 0),.int .i64 (sn1.li 1),.int .i64 (sn1.li 2),.int .i64 (sn1.dep),.int .i64 (sn1.no 0),.int .i64 (sn1.no 1),.int .i64 (sn1.no 2),.int .i64 (sn1.po 0),.int .i64 (sn1.po 1),.int .i64 (sn1.po 2),.int .i64 (sn1.ba 0),.int .i64 (sn1.ba 1),.int .i64 (sn1.ba 2),.int .i64 (sn1.sh),.int .i64 (sn1.pt)]⟩)] (fun h112=>?_) (fun h112=>?_) ?_
  ·have hb0:bb=0:=by have:=eq_of_beq h112;omega
   have X1:sn1=⟨sn.li,h.t,h.n,h.p,(Jd2 s f).cl i9,(i9:Int),sn.pt⟩:=by rw [<-hsn1];exact if_pos hb0
   rw [hcl] at X1
   have p1li0:sn1.li 0=sn.li 0:=by have q:=congrArg (fun z:SN=>z.li 0) X1;exact q
   have p1li1:sn1.li 1=sn.li 1:=by have q:=congrArg (fun z:SN=>z.li 1) X1;exact q
   have p1li2:sn1.li 2=sn.li 2:=by have q:=congrArg (fun z:SN=>z.li 2) X1;exact q
   have p1no0:sn1.no 0=h.n 0:=by have q:=congrArg (fun z:SN=>z.no 0) X1;exact q
   have p1no1:sn1.no 1=h.n 1:=by have q:=congrArg (fun z:SN=>z.no 1) X1;exact q
   have p1no2:sn1.no 2=h.n 2:=by have q:=congrArg (fun z:SN=>z.no 2) X1;exact q
   have p1po0:sn1.po 0=h.p 0:=by have q:=congrArg (fun z:SN=>z.po 0) X1;exact q
   have p1po1:sn1.po 1=h.p 1:=by have q:=congrArg (fun z:SN=>z.po 1) X1;exact q
   have p1po2:sn1.po 2=h.p 2:=by have q:=congrArg (fun z:SN=>z.po 2) X1;exact q
   have p1ba0:sn1.ba 0=s.pc jj 0:=by have q:=congrArg (fun z:SN=>z.ba 0) X1;exact q
   have p1ba1:sn1.ba 1=s.pc jj 1:=by have q:=congrArg (fun z:SN=>z.ba 1) X1;exact q
   have p1ba2:sn1.ba 2=s.pc jj 2:=by have q:=congrArg (fun z:SN=>z.ba 2) X1;exact q
   have p1dep:sn1.dep=h.t:=by have q:=congrArg (fun z:SN=>z.dep) X1;exact q
   have p1sh:sn1.sh=(i9:Int):=by have q:=congrArg (fun z:SN=>z.sh) X1;exact q
   have p1pt:sn1.pt=sn.pt:=by have q:=congrArg (fun z:SN=>z.pt) X1;exact q
   refine AW.c 4 U5 Z0 ?_
   refine AW.g U5 Z0 ?_
   apply Jc1
   try simp only [Jb2,Ja3,push_cast,simprocAttr,U5,p1li0,p1li1,p1li2,p1no0,p1no1,p1no2,p1po0,p1po1,p1po2,p1ba0,p1ba1,p1ba2,p1dep,p1sh,p1pt]
   exact Weak.same (by simp only [KS,simprocAttr,p1li0,p1li1,p1li2,p1no0,p1no1,p1no2,p1po0,p1po1,p1po2,p1ba0,p1ba1,p1ba2,p1dep,p1sh,p1pt]) (by first|rfl|simp only [KS,simprocAttr,p1li0,p1li1,p1li2,p1no0,p1no1,p1no2,p1po0,p1po1,p1po2,p1ba0,p1ba1,p1ba2,p1dep,p1sh,p1pt])
  ·have hb0:¬bb=0:=fun q=>by rw [q] at h112;cases h112
   have X1:sn1=sn:=by rw [<-hsn1];exact if_neg hb0
   have p1li0:sn1.li 0=sn.li 0:=by have q:=congrArg (fun z:SN=>z.li 0) X1;exact q
   have p1li1:sn1.li 1=sn.li 1:=by have q:=congrArg (fun z:SN=>z.li 1) X1;exact q
   have p1li2:sn1.li 2=sn.li 2:=by have q:=congrArg (fun z:SN=>z.li 2) X1;exact q
   have p1no0:sn1.no 0=sn.no 0:=by have q:=congrArg (fun z:SN=>z.no 0) X1;exact q
   have p1no1:sn1.no 1=sn.no 1:=by have q:=congrArg (fun z:SN=>z.no 1) X1;exact q
   have p1no2:sn1.no 2=sn.no 2:=by have q:=congrArg (fun z:SN=>z.no 2) X1;exact q
   have p1po0:sn1.po 0=sn.po 0:=by have q:=congrArg (fun z:SN=>z.po 0) X1;exact q
   have p1po1:sn1.po 1=sn.po 1:=by have q:=congrArg (fun z:SN=>z.po 1) X1;exact q
   have p1po2:sn1.po 2=sn.po 2:=by have q:=congrArg (fun z:SN=>z.po 2) X1;exact q
   have p1ba0:sn1.ba 0=sn.ba 0:=by have q:=congrArg (fun z:SN=>z.ba 0) X1;exact q
   have p1ba1:sn1.ba 1=sn.ba 1:=by have q:=congrArg (fun z:SN=>z.ba 1) X1;exact q
   have p1ba2:sn1.ba 2=sn.ba 2:=by have q:=congrArg (fun z:SN=>z.ba 2) X1;exact q
   have p1dep:sn1.dep=sn.dep:=by have q:=congrArg (fun z:SN=>z.dep) X1;exact q
   have p1sh:sn1.sh=sn.sh:=by have q:=congrArg (fun z:SN=>z.sh) X1;exact q
   have p1pt:sn1.pt=sn.pt:=by have q:=congrArg (fun z:SN=>z.pt) X1;exact q
   apply AW.z
   apply Jc1
   try simp only [Jb2,Ja3,push_cast,simprocAttr,U5,p1li0,p1li1,p1li2,p1no0,p1no1,p1no2,p1po0,p1po1,p1po2,p1ba0,p1ba1,p1ba2,p1dep,p1sh,p1pt]
   exact Weak.same (by simp only [KS,simprocAttr,p1li0,p1li1,p1li2,p1no0,p1no1,p1no2,p1po0,p1po1,p1po2,p1ba0,p1ba1,p1ba2,p1dep,p1sh,p1pt]) (by first|rfl|simp only [KS,simprocAttr,p1li0,p1li1,p1li2,p1no0,p1no1,p1no2,p1po0,p1po1,p1po2,p1ba0,p1ba1,p1ba2,p1dep,p1sh,p1pt])
  try simp only [Jb2,Ja3,push_cast,simprocAttr,U5]
  apply hK;clear hK
  refine AW.q fun K hK=>?_
  refine AW.q fun K hK=>?_
  have hk19:(s.pk jj=3/\shp=true)\/(s.pk jj=3/\shp=false)\/¬s.pk jj=3:=by cases shp<;>simp<;>omega
  rcases hk19 with ⟨h3,hsp⟩|⟨h3,hsp⟩|h3
  ·have h3w:(Jd2 s f).kd i9=3:=hkd.trans h3
   have k3:(s.pk jj ==3)=true:=beq_iff_eq.2 h3
   subst hsp
   have hR8:R9=sn1.add (Je2 wt ((Jd2 s f).cl i9)):=by rw [<-hR9];exact Ji6 hbn (by rw [<-hd9];exact Kv9 hF0 hh hsn1 h3w rfl)
   rw [hcl] at hR8
   have hv:snC R9=[.int .i64 (Je0 sn1.li (Je2 wt (s.pc jj)) 0),.int .i64 (Je0 sn1.li (Je2 wt (s.pc jj)) 1),.int .i64 (Je0 sn1.li (Je2 wt (s.pc jj)) 2),.int .i64 (sn1.dep),.int .i64 (sn1.no 0),.int .i64 (sn1.no 1),.int .i64 (sn1.no 2),.int .i64 (sn1.po 0),.int .i64 (sn1.po 1),.int .i64 (sn1.po 2),.int .i64 (sn1.ba 0),.int .i64 (sn1.ba 1),.int .i64 (sn1.ba 2),.int .i64 (sn1.sh),.int .i64 (sn1.pt)]:=by rw [hR8];rfl
   rw [hv] at hQ
   have U6:=ca2 U5 k3
   refine AW.g U6 Z0 ?_
   apply hK;clear hK
   apply AW.y rfl
   refine AW.q fun K hK=>?_
   refine AW.c 1 U6 Z0 ?_
   apply AW.y rfl
   refine AW.e [.val,.rd 0,.rd 0,.val,.rd 0,.ext,.ext,.val,.wr] fol U6 (ca2 (Jz5 wt (s.pc jj)) (Qc2 sn1.li (Je2 wt (s.pc jj)))) ?_
   apply hK;clear hK
   refine AW.c 1 U6 Z0 ?_
   exact AW.ret (hQ _ _ _ (RetP.z hwf Z0))
  ·have h3w:(Jd2 s f).kd i9=3:=hkd.trans h3
   have k3:(s.pk jj ==3)=true:=beq_iff_eq.2 h3
   subst hsp
   have hR8:R9=sn1:=by rw [<-hR9];exact Ji6 hbn (by rw [<-hd9];exact Kw0 hF0 hh hsn1 h3w rfl)
   have hv:snC R9=[.int .i64 (sn1.li 0),.int .i64 (sn1.li 1),.int .i64 (sn1.li 2),.int .i64 (sn1.dep),.int .i64 (sn1.no 0),.int .i64 (sn1.no 1),.int .i64 (sn1.no 2),.int .i64 (sn1.po 0),.int .i64 (sn1.po 1),.int .i64 (sn1.po 2),.int .i64 (sn1.ba 0),.int .i64 (sn1.ba 1),.int .i64 (sn1.ba 2),.int .i64 (sn1.sh),.int .i64 (sn1.pt)]:=by rw [hR8];rfl
   rw [hv] at hQ
   have U7:=ca2 U5 k3
   refine AW.g U7 Z0 ?_
   apply hK;clear hK
   apply AW.y rfl
   refine AW.q fun K hK=>?_
   refine AW.c 1 U7 Z0 ?_
   apply AW.x rfl
   apply AW.z
   apply hK;clear hK
   refine AW.c 1 U7 Z0 ?_
   exact AW.ret (hQ _ _ _ (RetP.z hwf Z0))
  have h3w:¬(Jd2 s f).kd i9=3:=fun q=>h3 (hkd.symm.trans q)
  have k3:(s.pk jj ==3)=false:=by simpa using h3
  have U8:=ca2 U5 k3
  refine AW.g U8 Z0 ?_
  apply hK;clear hK
  apply AW.x rfl
  apply AW.z
  apply hK;clear hK
  refine AW.q fun K hK=>?_
  refine AW.c 1 U8 Z0 ?_
  refine AW.condJ rfl [5,10,11,12,13,16,17,18,20,21,22,24] [] [(m.length+6,⟨.fix,56,0,0,[.int .i64 (sn2.li 0),.int .i64 (sn2.li 1),.int .i64 (sn2.li 2),.int .i64 (sn2.dep),.int .i64 (sn2.no 0),.int .i64 (sn2.no 1),.int .i64 (sn2.no 2),.int .i64 (sn2.po 0),.int .i64 (sn2.po 1),.int .i64 (sn2.po 2),.int .i64 (sn2.ba 0),.int .i64 (sn2.ba 1),.int .i64 (sn2.ba 2),.int .i64 (sn2.sh),.int .i64 (sn2.pt)]⟩)] (fun h143=>?_) (fun h143=>?_) ?_
  ·have hk0:s.pk jj=0:=eq_of_beq h143
   obtain ⟨lv,hlv⟩:∃ l,Jm3 (Jd2 s f) k d h i9 sn1.pt=l:=⟨_,rfl⟩
   have hlv2:Jm3 (Jd2 s f) k d h i9 pt=lv:=by rw [<-hlv,hp1,hpt9]
   have X2:sn2=sn1.add (Je2 wt lv):=by rw [<-hsn2,<-hlv];exact if_pos (hkd.trans hk0)
   have p2li0:sn2.li 0=Je0 sn1.li (Je2 wt lv) 0:=by have q:=congrArg (fun z:SN=>z.li 0) X2;exact q
   have p2li1:sn2.li 1=Je0 sn1.li (Je2 wt lv) 1:=by have q:=congrArg (fun z:SN=>z.li 1) X2;exact q
   have p2li2:sn2.li 2=Je0 sn1.li (Je2 wt lv) 2:=by have q:=congrArg (fun z:SN=>z.li 2) X2;exact q
   have p2no0:sn2.no 0=sn1.no 0:=by have q:=congrArg (fun z:SN=>z.no 0) X2;exact q
   have p2no1:sn2.no 1=sn1.no 1:=by have q:=congrArg (fun z:SN=>z.no 1) X2;exact q
   have p2no2:sn2.no 2=sn1.no 2:=by have q:=congrArg (fun z:SN=>z.no 2) X2;exact q
   have p2po0:sn2.po 0=sn1.po 0:=by have q:=congrArg (fun z:SN=>z.po 0) X2;exact q
   have p2po1:sn2.po 1=sn1.po 1:=by have q:=congrArg (fun z:SN=>z.po 1) X2;exact q
   have p2po2:sn2.po 2=sn1.po 2:=by have q:=congrArg (fun z:SN=>z.po 2) X2;exact q
   have p2ba0:sn2.ba 0=sn1.ba 0:=by have q:=congrArg (fun z:SN=>z.ba 0) X2;exact q
   have p2ba1:sn2.ba 1=sn1.ba 1:=by have q:=congrArg (fun z:SN=>z.ba 1) X2;exact q
   have p2ba2:sn2.ba 2=sn1.ba 2:=by have q:=congrArg (fun z:SN=>z.ba 2) X2;exact q
   have p2dep:sn2.dep=sn1.dep:=by have q:=congrArg (fun z:SN=>z.dep) X2;exact q
   have p2sh:sn2.sh=sn1.sh:=by have q:=congrArg (fun z:SN=>z.sh) X2;exact q
   have p2pt:sn2.pt=sn1.pt:=by have q:=congrArg (fun z:SN=>z.pt) X2;exact q
   refine AW.draw [.val,.rd 0,.rd 0,.rd 0,.val,.rd 0,.val,.rd 0,.val,.ext,.ext,.ext,.val,.wr] fol (by decide) (by kernel_rfl) ?_
   simp only [push_cast,simprocAttr,U8]
   refine DCall.z ((by have h9:=fun M hR hm=>Vx5 s R f (m.length+2) 0 k d h i9 pt M hR hm;rw [hkc,hlv2,hht] at h9;exact h9 _ (hR.app _) ⟨.grow,24,by rw [Jf8];rfl⟩ hG hdr hhi hi9)) ?_
   simp only [push_cast,simprocAttr,U8]
   refine DCall.z (Jz5 wt lv _) ?_
   simp only [push_cast,simprocAttr,U8]
   refine DCall.z (Qc2 sn1.li (Je2 wt lv) _) ?_
   simp only [push_cast,simprocAttr,U8]
   apply Jc1
   try simp only [Jb2,Ja3,push_cast,simprocAttr,U8,p2li0,p2li1,p2li2,p2no0,p2no1,p2no2,p2po0,p2po1,p2po2,p2ba0,p2ba1,p2ba2,p2dep,p2sh,p2pt]
   exact Weak.same (by simp only [KS,simprocAttr,p2li0,p2li1,p2li2,p2no0,p2no1,p2no2,p2po0,p2po1,p2po2,p2ba0,p2ba1,p2ba2,p2dep,p2sh,p2pt]) (by first|rfl|simp only [KS,simprocAttr,p2li0,p2li1,p2li2,p2no0,p2no1,p2no2,p2po0,p2po1,p2po2,p2ba0,p2ba1,p2ba2,p2dep,p2sh,p2pt])
  ·have hk0:¬s.pk jj=0:=fun q=>by rw [q] at h143;cases h143
   have X2:sn2=sn1:=by rw [<-hsn2];exact if_neg (fun q=>hk0 (hkd.symm.trans q))
   have p2li0:sn2.li 0=sn1.li 0:=by have q:=congrArg (fun z:SN=>z.li 0) X2;exact q
   have p2li1:sn2.li 1=sn1.li 1:=by have q:=congrArg (fun z:SN=>z.li 1) X2;exact q
   have p2li2:sn2.li 2=sn1.li 2:=by have q:=congrArg (fun z:SN=>z.li 2) X2;exact q
   have p2no0:sn2.no 0=sn1.no 0:=by have q:=congrArg (fun z:SN=>z.no 0) X2;exact q
   have p2no1:sn2.no 1=sn1.no 1:=by have q:=congrArg (fun z:SN=>z.no 1) X2;exact q
   have p2no2:sn2.no 2=sn1.no 2:=by have q:=congrArg (fun z:SN=>z.no 2) X2;exact q
   have p2po0:sn2.po 0=sn1.po 0:=by have q:=congrArg (fun z:SN=>z.po 0) X2;exact q
   have p2po1:sn2.po 1=sn1.po 1:=by have q:=congrArg (fun z:SN=>z.po 1) X2;exact q
   have p2po2:sn2.po 2=sn1.po 2:=by have q:=congrArg (fun z:SN=>z.po 2) X2;exact q
   have p2ba0:sn2.ba 0=sn1.ba 0:=by have q:=congrArg (fun z:SN=>z.ba 0) X2;exact q
   have p2ba1:sn2.ba 1=sn1.ba 1:=by have q:=congrArg (fun z:SN=>z.ba 1) X2;exact q
   have p2ba2:sn2.ba 2=sn1.ba 2:=by have q:=congrArg (fun z:SN=>z.ba 2) X2;exact q
   have p2dep:sn2.dep=sn1.dep:=by have q:=congrArg (fun z:SN=>z.dep) X2;exact q
   have p2sh:sn2.sh=sn1.sh:=by have q:=congrArg (fun z:SN=>z.sh) X2;exact q
   have p2pt:sn2.pt=sn1.pt:=by have q:=congrArg (fun z:SN=>z.pt) X2;exact q
   apply AW.z
   apply Jc1
   try simp only [Jb2,Ja3,push_cast,simprocAttr,U8,p2li0,p2li1,p2li2,p2no0,p2no1,p2no2,p2po0,p2po1,p2po2,p2ba0,p2ba1,p2ba2,p2dep,p2sh,p2pt]
   exact Weak.same (by simp only [KS,simprocAttr,p2li0,p2li1,p2li2,p2no0,p2no1,p2no2,p2po0,p2po1,p2po2,p2ba0,p2ba1,p2ba2,p2dep,p2sh,p2pt]) (by first|rfl|simp only [KS,simprocAttr,p2li0,p2li1,p2li2,p2no0,p2no1,p2no2,p2po0,p2po1,p2po2,p2ba0,p2ba1,p2ba2,p2dep,p2sh,p2pt])
  try simp only [Jb2,Ja3,push_cast,simprocAttr,U8]
  apply hK;clear hK
  have q_8:=Ju5 k (d+3)
  rw [hkc] at q_8
  have q_9:=Ju5 k (d+4)
  rw [hkc] at q_9
  have q_10:=Xm1 (s.pk jj) (s.pc jj) (s.pr jj) rr.d h.n (k.u (d+3)) (k.u (d+4))
  rw [hT1] at q_10
  unfold tnC c3C at q_10
  refine AW.d [.rd 0,.val,.rd 0,.val,.rd 0,.rd 0,.val,.val,.ext,.rd 0,.val,.val,.ext,.ext,.fl,.wr] fol U8 (ca3 q_8 q_9 q_10) ?_
  refine AW.q fun K hK=>?_
  refine AW.q fun K hK=>?_
  cases hg:T.g
  ·have hR8:R9=sn2:=by rw [<-hR9];exact Ji6 hbn (by rw [<-hd9];exact Kv8 hF0 hh hsn1 hsn2 hT h3w hg)
   have hv:snC R9=[.int .i64 (sn2.li 0),.int .i64 (sn2.li 1),.int .i64 (sn2.li 2),.int .i64 (sn2.dep),.int .i64 (sn2.no 0),.int .i64 (sn2.no 1),.int .i64 (sn2.no 2),.int .i64 (sn2.po 0),.int .i64 (sn2.po 1),.int .i64 (sn2.po 2),.int .i64 (sn2.ba 0),.int .i64 (sn2.ba 1),.int .i64 (sn2.ba 2),.int .i64 (sn2.sh),.int .i64 (sn2.pt)]:=by rw [hR8];rfl
   rw [hv] at hQ
   have U9:=ca2 U8 hg
   refine AW.g U9 Z0 ?_
   apply hK;clear hK
   apply AW.y rfl
   refine AW.c 1 U9 Z0 ?_
   exact AW.ret (hQ _ _ _ (RetP.z hwf Z0))
  skip
  have U10:=ca2 U8 hg
  refine AW.g U10 Z0 ?_
  apply hK;clear hK
  apply AW.x rfl
  apply AW.z
  apply hK;clear hK
  refine AW.c 2 U10 (Jz5 wt T.l) ?_
  refine AW.q fun K hK=>?_
  refine AW.q fun K hK=>?_
  have hk29:bb=0\/(¬bb=0/\Kt6 (Je2 wt T.l)<=Jb9 (k.u (d+5)))\/(¬bb=0/\¬Kt6 (Je2 wt T.l)<=Jb9 (k.u (d+5))):=by
    by_cases q1:bb=0
    · exact .inl q1
    by_cases q2:Kt6 (Je2 wt T.l)<=Jb9 (k.u (d+5))
    · exact .inr (.inl ⟨q1,q2⟩)
    exact .inr (.inr ⟨q1,q2⟩)
  rcases hk29 with hb0|⟨hb0,hl9⟩|⟨hb0,hl9⟩
  ·have e9:¬(1:Int)<=(bb:Int):=by omega
   have hNx:bb+1<=s.dp.toNat/\Jv3 (Jd2 s f) k (s.dp.toNat - (bb+1)) (bb+1) ⟨sn2,Je2 wt T.l,T.s,⟨h.p,T.d,sn.pt⟩⟩=R9:=⟨hbn,by rw [<-hR9];exact (Kb0 hbn (by rw [<-hd9];exact Qf4 hF0 hh hsn1 hsn2 hT h3w hg hb0)).symm⟩
   have hmu:s.dp.toNat - (bb+1)<s.dp.toNat - bb:=by omega
   have U11:=ca2 U10 e9
   refine AW.g U11 Z0 ?_
   apply hK;clear hK
   apply AW.x rfl
   apply AW.z
   apply hK;clear hK
   refine AW.g U11 Z0 ?_
   apply Ja6
   apply hK;clear hK
   refine AW.g U11 Z0 ?_
   apply Jc1
   refine ⟨⟨bb+1,⟨sn2,Je2 wt T.l,T.s,⟨h.p,T.d,sn.pt⟩⟩⟩,⟨hNx.1,hNx.2,hp2.trans hpt9⟩,hmu,?_⟩
   try simp only [Jb2,Ja3,push_cast,simprocAttr,U11,hwi,hp2,hpt9,Int.natCast_add,Int.natCast_one]
   exact Weak.to (extra:=_) (by simp only [KS,simprocAttr,hwi,hp2,hpt9,Int.natCast_add,Int.natCast_one]) (by first|rfl|(simp only [List.append_assoc,List.cons_append,List.nil_append];rfl)) (by first|rfl|(simp [AV.below,CV.below];done)|(simp [AV.below,CV.below];omega)) (by exact MWf.app (hwf.grow (by simp)) (Ja0 (hR.bel _ (by simp)) (Ja0 rfl (Ja0 (Jc2 _ (fun _=>rfl) _) (Ja0 rfl (Ja0 rfl (Ja0 rfl (Ja0 rfl (Ja0 rfl Jb8)))))))))
  ·have e9:(1:Int)<=(bb:Int):=by omega
   have hR8:R9=sn2:=by rw [<-hR9];exact Ji6 hbn (by rw [<-hd9];exact Kw1 hF0 hh hsn1 hsn2 hT h3w hg hb0 hl9)
   have hv:snC R9=[.int .i64 (sn2.li 0),.int .i64 (sn2.li 1),.int .i64 (sn2.li 2),.int .i64 (sn2.dep),.int .i64 (sn2.no 0),.int .i64 (sn2.no 1),.int .i64 (sn2.no 2),.int .i64 (sn2.po 0),.int .i64 (sn2.po 1),.int .i64 (sn2.po 2),.int .i64 (sn2.ba 0),.int .i64 (sn2.ba 1),.int .i64 (sn2.ba 2),.int .i64 (sn2.sh),.int .i64 (sn2.pt)]:=by rw [hR8];rfl
   rw [hv] at hQ
   have U12:=ca2 U10 e9
   refine AW.g U12 Z0 ?_
   apply hK;clear hK
   apply AW.y rfl
   have q_11:=Ju5 k (d+5)
   rw [hkc] at q_11
   refine AW.d [.rd 0,.rd 0,.val,.val,.ext,.ext,.val,.val,.val,.fl,.wr,.val] fol U12 (ca2 q_11 (Vh6 (Je2 wt T.l) (k.u (d+5)) _ hl9)) ?_
   refine AW.q fun K hK=>?_
   refine AW.c 1 U12 Z0 ?_
   apply AW.y rfl
   refine AW.c 1 U12 Z0 ?_
   exact AW.ret (hQ _ _ _ (RetP.z hwf Z0))
  have e9:(1:Int)<=(bb:Int):=by omega
  have hNx:bb+1<=s.dp.toNat/\Jv3 (Jd2 s f) k (s.dp.toNat - (bb+1)) (bb+1) ⟨sn2,Jn1 (Je2 wt T.l) (k.u (d+5)),T.s,⟨h.p,T.d,sn.pt⟩⟩=R9:=⟨hbn,by rw [<-hR9];exact (Kb0 hbn (by rw [<-hd9];exact Qt3 hF0 hh hsn1 hsn2 hT h3w hg hb0 hl9)).symm⟩
  have hmu:s.dp.toNat - (bb+1)<s.dp.toNat - bb:=by omega
  have U13:=ca2 U10 e9
  refine AW.g U13 Z0 ?_
  apply hK;clear hK
  apply AW.y rfl
  have q_12:=Ju5 k (d+5)
  rw [hkc] at q_12
  refine AW.d [.rd 0,.rd 0,.val,.val,.ext,.ext,.val,.val,.val,.fl,.wr,.val] fol U13 (ca2 q_12 (Vh7 (Je2 wt T.l) (k.u (d+5)) _ hl9)) ?_
  refine AW.q fun K hK=>?_
  refine AW.c 1 U13 Z0 ?_
  apply AW.x rfl
  apply AW.z
  apply hK;clear hK
  refine AW.g U13 Z0 ?_
  apply hK;clear hK
  refine AW.g U13 Z0 ?_
  apply Ja6
  apply hK;clear hK
  refine AW.g U13 Z0 ?_
  apply Jc1
  refine ⟨⟨bb+1,⟨sn2,Jn1 (Je2 wt T.l) (k.u (d+5)),T.s,⟨h.p,T.d,sn.pt⟩⟩⟩,⟨hNx.1,hNx.2,hp2.trans hpt9⟩,hmu,?_⟩
  try simp only [Jb2,Ja3,push_cast,simprocAttr,U13,hwi,hp2,hpt9,Int.natCast_add,Int.natCast_one]
  exact Weak.to (extra:=_) (by simp only [KS,simprocAttr,hwi,hp2,hpt9,Int.natCast_add,Int.natCast_one]) (by first|rfl|(simp only [List.append_assoc,List.cons_append,List.nil_append];rfl)) (by first|rfl|(simp [AV.below,CV.below];done)|(simp [AV.below,CV.below];omega)) (by exact MWf.app (hwf.grow (by simp)) (Ja0 (hR.bel _ (by simp)) (Ja0 rfl (Ja0 (Jc2 _ (fun _=>rfl) _) (Ja0 rfl (Ja0 rfl (Ja0 rfl (Ja0 rfl (Ja0 rfl Jb8)))))))))
 have hbn:¬bb<s.dp.toNat:=by have:=of_decide_eq_false h76;omega
 have hbe:bb=s.dp.toNat:=by omega
 have hR8:R9=sn:=by rw [<-hR9];exact Kv6 (by omega)
 have hv:snC R9=[.int .i64 (sn.li 0),.int .i64 (sn.li 1),.int .i64 (sn.li 2),.int .i64 (sn.dep),.int .i64 (sn.no 0),.int .i64 (sn.no 1),.int .i64 (sn.no 2),.int .i64 (sn.po 0),.int .i64 (sn.po 1),.int .i64 (sn.po 2),.int .i64 (sn.ba 0),.int .i64 (sn.ba 1),.int .i64 (sn.ba 2),.int .i64 (sn.sh),.int .i64 (sn.pt)]:=by rw [hR8];rfl
 rw [hv] at hQ
 apply AW.v
 apply Jb0
 clear hK
 apply Jb0
 apply Ja5
 apply hK;clear hK
 refine AW.c 1 U1 Z0 ?_
 exact AW.ret (hQ _ _ _ (RetP.z hwf Z0))
structure GdS (s:SC):Prop where
 hd:HdR s
 p:s.np<=32
 pa:∀ i,i<s.np->PaR s i
 t:s.nt<=32
 tr:∀ i,i<s.nt->TrS s i
 j:s.nj<=32
 jo:∀ i,i<s.nj->JoR s i
 x:s.nx<=128
 sh:∀ i,i<s.nx->ShR s i
 le:LeR s
 la:(Jm1 (glB s) s.nx).length<=16
theorem Jy3 {s:SC}(h:(Jj6 s).1=0):GdS s/\Jj6 s=(0,0):=by
 have fb:∀ (P:Nat->Prop) [DecidablePred P] (n:Nat),¬fbN (fun i=>decide (P i)) n<n->∀ k,k<n->P k:=fun P _ n q k hk=>by
  have:=Qj9 (f:=fun i=>decide (P i)) n (by have:=Kf0 (fun i=>decide (P i)) n;omega) k hk
  exact of_decide_eq_true this
 have h0:=h
 unfold Jj6 at h
 split at h
 ·exact absurd h (by decide)
 rename_i a1
 split at h
 ·exact absurd h (by decide)
 rename_i a2
 split at h
 ·exact absurd h (by simp)
 rename_i a3
 split at h
 ·exact absurd h (by decide)
 rename_i a4
 split at h
 ·exact absurd h (by simp)
 rename_i a5
 split at h
 ·exact absurd h (by decide)
 rename_i a6
 split at h
 ·exact absurd h (by simp)
 rename_i a7
 split at h
 ·exact absurd h (by decide)
 rename_i a8
 split at h
 ·exact absurd h (by simp)
 rename_i a9
 split at h
 ·exact absurd h (by decide)
 rename_i a10
 split at h
 ·exact absurd h (by simp)
 rename_i a11
 refine ⟨⟨Classical.not_not.1 a1,by omega,fb (PaR s) _ a3,by omega,fb (TrS s) _ a5,by omega,fb (JoR s) _ a7,by omega,fb (ShR s) _ a9,Classical.not_not.1 a10,by omega⟩,?_⟩
 unfold Jj6
 rw [if_neg a1,if_neg a2,if_neg a3,if_neg a4,if_neg a5,if_neg a6,if_neg a7,if_neg a8,if_neg a9,if_neg a10,if_neg a11]
theorem Xj4 {s:SC}{i:Nat}(h:ShR s i):inB (s.xj i) (-1) ((s.nj:Int) - 1)=true/\inB (s.xp i) 0 ((s.np:Int) - 1)=true:=by
 unfold ShR at h
 split at h
 ·exact ⟨h.1,h.2.1⟩
 exact ⟨h.1,h.2.1⟩
theorem Qp1 {s:SC}(h:GdS s):GoS s where
 xp:=fun i hi=>by have:=inB_iff.1 (Xj4 (h.sh i hi)).2;omega
 nx:=h.x
 lm:=by rw [<-Kc5];exact h.la
 w:=inB_iff.1 h.hd.1
 h:=inB_iff.1 h.hd.2.1
 sm:=inB_iff.1 h.hd.2.2.1
 dp:=inB_iff.1 h.hd.2.2.2.1
 fr:=inB_iff.1 h.hd.2.2.2.2.1
 sh:=⟨h.hd.2.2.2.2.2.1,h.hd.2.2.2.2.2.2.1⟩
theorem GdS.xj {s:SC}(h:GdS s):∀ i,i<s.nx->-1<=s.xj i/\s.xj i<(s.nj:Int):=fun i hi=>by have:=inB_iff.1 (Xj4 (h.sh i hi)).1;omega
theorem GdS.ey {s:SC}(h:GdS s):s.ey<(s.nt:Int):=by have:=inB_iff.1 h.le.1;omega
theorem GdS.lk {s:SC}(h:GdS s):s.lk<(s.nt:Int):=by have:=inB_iff.1 h.le.2.1;omega
theorem Vy8 (s:SC)(R:RWs)(f:Int)(m:Ja1)(hR:ScR 140 119 223 148 155 m s R)(hc:(Jj6 s).1=0)(h0:0<=f)(h1:f<s.fr)(hn:0<s.nx):Ctr Tryz.prog 10 [.agg (scC s R),.one (.int .i64 f)] m (.tup [(false,[.ptr (m.length+6) 0 0]),(false,[.int .i64 0])]) (m++[⟨.fix,52,0,0,scC s R⟩,⟨.grow,204,0,24,Jb6 s.nx (mvF s f)⟩,⟨.grow,255,0,16,ndL (Ji5 (prM (mvS s f)) s.nx).2⟩,⟨.grow,3,0,1,iC (Ji5 (prM (mvS s f)) s.nx).1⟩,⟨.grow,204,0,24,Jb6 s.nx (mF (mvS s f))⟩,⟨.grow,3,0,1,iC (Jq7 s s.nx)⟩,⟨.fix,135,0,0,scC s R++(.int .i64 f::.sl (m.length+2) 0 0 (Ji5 (prM (mvS s f)) s.nx).2.length::.sl (m.length+3) 0 0 s.nx::.sl (m.length+4) 0 0 s.nx::.sl (m.length+5) 0 0 (Jq7 s s.nx).length::(vwC (Jn8 s (f*65536))++vwC (Jn8 s (f*65536+s.sh))))⟩]):=by
 refine Ctr.en Tryz.func10 [.tmp 4,.tmp 5] 47 fun hwf Q hQ=>?_
 have e1:((Jj6 s).1 !=0)=false:=by rw [hc];rfl
 obtain ⟨hG,_⟩:=Jy3 hc
 have hg:=Qp1 hG
 have hfr:=hg.fr
 have hs:=hg.sh
 have hgx:=hG.x
 have hgj:=hG.j
 have hT:=hG.tr
 have hX:=hG.xj
 have hf:0<=f/\f<=1000000:=by omega
 have e2:¬f<0:=by omega
 have e3:¬s.fr<=f:=by omega
 obtain ⟨A,hA⟩:∃ A,Jn8 s (f*65536)=A:=⟨_,rfl⟩
 obtain ⟨B,hB⟩:∃ B,Jn8 s (f*65536+s.sh)=B:=⟨_,rfl⟩
 rw [hA,hB] at hQ
 have U5:=ca4 @Jg8 @Jg0 @Jg7 (ca4 @Ja4 @Kh7 e1 (ca2 e2 e3))
 refine AW.c 1 U5 Z0 ?_
 refine AW.q fun K hK=>?_
 refine AW.c 2 U5 (Vt1 s R _ (hR.app _)) ?_
 apply AW.x rfl
 apply AW.z
 apply hK;clear hK
 refine AW.q fun K hK=>?_
 refine AW.c 1 U5 Z0 ?_
 apply AW.x rfl
 apply AW.z
 apply hK;clear hK
 refine AW.q fun K hK=>?_
 refine AW.draw [.rd 0,.val,.rd 0,.val,.ext,.ext,.rd 0,.ext,.rd 0,.val,.rd 0,.val,.ext,.ext,.rd 0,.val,.rd 0,.val,.ext,.ext,.val,.ext,.val,.val] fol (by decide) (by kernel_rfl) ?_
 simp only [push_cast,simprocAttr,U5]
 refine DCall.by (Va8 s R f _ (hR.app _) hT hX hf hs (by omega) (by omega)) ?_
 simp only [push_cast,simprocAttr,U5]
 refine DCall.by (Vt6 (mvS s f) (m.length+1) 0 s.nx _ ⟨.grow,24,by rw [Jf8];rfl⟩ hgx hn) ?_
 simp only [push_cast,simprocAttr,U5]
 refine DCall.by ((by have h9:=fun M hR=>Vo9 s R M hR;rw [Kc5,Jw7] at h9;exact h9 _ (hR.app _))) ?_
 simp only [push_cast,simprocAttr,U5]
 refine DCall.z ((by have h:=Qh3 s f;unfold hdC c3C at h;exact h _ hf)) ?_
 simp only [push_cast,simprocAttr,U5]
 refine DCall.z ((by have h9:=fun M hR=>Qf2 s R (f*65536) M hR hT;rw [hA] at h9;exact h9 _ (hR.app _))) ?_
 simp only [push_cast,simprocAttr,U5]
 refine DCall.z ((by have h:=Qt7 s f;unfold hdC c3C at h;exact h _ hf hs)) ?_
 simp only [push_cast,simprocAttr,U5]
 refine DCall.z ((by have h9:=fun M hR=>Qf2 s R (f*65536+s.sh) M hR hT;rw [hB] at h9;exact h9 _ (hR.app _))) ?_
 simp only [push_cast,simprocAttr,U5]
 refine DExt.by (by first|rfl|exact (List.append_nil _).symm|(simp only [List.append_assoc,List.cons_append,List.nil_append];rfl)) ?_
 simp only [push_cast,simprocAttr,U5]
 apply hK;clear hK
 refine AW.ret ?_
 refine hQ _ _ _ ?_
 refine RetP.keep (by first|exact Or.inr rfl|exact Or.inl rfl) ?_
 (simp only [Jd3,Ja7,Jb5,AV.tv,push_cast,simprocAttr])<;>rfl
theorem Vy9 (s:SC)(R:RWs)(f:Int)(m:Ja1)(hR:ScR 140 119 223 148 155 m s R)(hc:(Jj6 s).1=0)(h0:0<=f)(h1:f<s.fr)(hn:s.nx=0):Ctr Tryz.prog 10 [.agg (scC s R),.one (.int .i64 f)] m (.tup [(false,[.ptr (m.length+4) 0 0]),(false,[.int .i64 0])]) (m++[⟨.fix,52,0,0,scC s R⟩,⟨.grow,204,0,24,Jb6 s.nx (mvF s f)⟩,⟨.grow,204,0,24,Jb6 s.nx (mF (mvS s f))⟩,⟨.grow,3,0,1,iC (Jq7 s s.nx)⟩,⟨.fix,135,0,0,scC s R++(.int .i64 f::.nils::.nils::.sl (m.length+2) 0 0 s.nx::.sl (m.length+3) 0 0 (Jq7 s s.nx).length::(vwC (Jn8 s (f*65536))++vwC (Jn8 s (f*65536+s.sh))))⟩]):=by
 refine Ctr.en Tryz.func10 [.tmp 4,.tmp 5] 47 fun hwf Q hQ=>?_
 have e1:((Jj6 s).1 !=0)=false:=by rw [hc];rfl
 obtain ⟨hG,_⟩:=Jy3 hc
 have hg:=Qp1 hG
 have hfr:=hg.fr
 have hs:=hg.sh
 have hgx:=hG.x
 have hgj:=hG.j
 have hT:=hG.tr
 have hX:=hG.xj
 have hf:0<=f/\f<=1000000:=by omega
 have e2:¬f<0:=by omega
 have e3:¬s.fr<=f:=by omega
 obtain ⟨A,hA⟩:∃ A,Jn8 s (f*65536)=A:=⟨_,rfl⟩
 obtain ⟨B,hB⟩:∃ B,Jn8 s (f*65536+s.sh)=B:=⟨_,rfl⟩
 rw [hA,hB] at hQ
 have U6:=ca4 @Jg8 @Jg0 @Jg7 (ca4 @Ja4 @Kh7 e1 (ca2 e2 e3))
 refine AW.c 1 U6 Z0 ?_
 refine AW.q fun K hK=>?_
 refine AW.c 2 U6 (Vt1 s R _ (hR.app _)) ?_
 apply AW.x rfl
 apply AW.z
 apply hK;clear hK
 refine AW.q fun K hK=>?_
 refine AW.c 1 U6 Z0 ?_
 apply AW.x rfl
 apply AW.z
 apply hK;clear hK
 refine AW.q fun K hK=>?_
 refine AW.draw [.rd 0,.val,.rd 0,.val,.ext,.ext,.rd 0,.ext,.rd 0,.val,.rd 0,.val,.ext,.ext,.rd 0,.val,.rd 0,.val,.ext,.ext,.val,.ext,.val,.val] fol (by decide) (by kernel_rfl) ?_
 simp only [push_cast,simprocAttr,U6]
 refine DCall.by (Va8 s R f _ (hR.app _) hT hX hf hs (by omega) (by omega)) ?_
 simp only [push_cast,simprocAttr,U6]
 refine DCall.by (Ve5 (mvS s f) (m.length+1) 0 s.nx _ ⟨.grow,24,by rw [Jf8];rfl⟩ hgx hn) ?_
 simp only [push_cast,simprocAttr,U6]
 refine DCall.by ((by have h9:=fun M hR=>Vo9 s R M hR;rw [Kc5,Jw7] at h9;exact h9 _ (hR.app _))) ?_
 simp only [push_cast,simprocAttr,U6]
 refine DCall.z ((by have h:=Qh3 s f;unfold hdC c3C at h;exact h _ hf)) ?_
 simp only [push_cast,simprocAttr,U6]
 refine DCall.z ((by have h9:=fun M hR=>Qf2 s R (f*65536) M hR hT;rw [hA] at h9;exact h9 _ (hR.app _))) ?_
 simp only [push_cast,simprocAttr,U6]
 refine DCall.z ((by have h:=Qt7 s f;unfold hdC c3C at h;exact h _ hf hs)) ?_
 simp only [push_cast,simprocAttr,U6]
 refine DCall.z ((by have h9:=fun M hR=>Qf2 s R (f*65536+s.sh) M hR hT;rw [hB] at h9;exact h9 _ (hR.app _))) ?_
 simp only [push_cast,simprocAttr,U6]
 refine DExt.by (by first|rfl|exact (List.append_nil _).symm|(simp only [List.append_assoc,List.cons_append,List.nil_append];rfl)) ?_
 simp only [push_cast,simprocAttr,U6]
 apply hK;clear hK
 refine AW.ret ?_
 refine hQ _ _ _ ?_
 refine RetP.keep (by first|exact Or.inr rfl|exact Or.inl rfl) ?_
 (simp only [Jd3,Ja7,Jb5,AV.tv,push_cast,simprocAttr])<;>rfl
theorem Qw4 (s:SC)(R:RWs)(f:Int)(m:Ja1)(hR:ScR 140 119 223 148 155 m s R)(hc:(Jj6 s).1=0)(h0:0<=f)(h1:f<s.fr):∃ (L:Ja1) (p:Nat) (E:SE),Ctr Tryz.prog 10 [.agg (scC s R),.one (.int .i64 f)] m (.tup [(false,[.ptr p 0 0]),(false,[.int .i64 0])]) (m++L)/\SetAt (m++L) p s R f E (Jn8 s (f*65536)) (Jn8 s (f*65536+s.sh))/\(MWf m.length m->MWf (m++L).length (m++L)):=by
 obtain ⟨hG,_⟩:=Jy3 hc
 have hg:=Qp1 hG
 have hgx:=hG.x
 by_cases hn:s.nx=0
 ·refine ⟨_,m.length+4,⟨.nils,.nils,m.length+2,0,m.length+3,0,fun _ _ _=>0⟩,Vy9 s R f m hR hc h0 h1 hn,?_,fun hw=>by
   refine MWf.app (hw.grow (by simp)) (Ja0 (hR.bel _ (by simp)) (Ja0 (Jc2 _ (fun _=>rfl) _) (Ja0 (Jc2 _ (fun _=>rfl) _) (Ja0 (Jg6 _ _) (Ja0 ?_ Jb8)))))
   have hb:=hR.bel (m.length+5) (by omega)
   simp only [List.length_append,List.length_cons,List.length_nil]
   rw [List.all_append,hb]
   simp [CV.below,vwC,c3C]⟩
  refine ⟨by rw [Jf8];rfl,hR.app _,⟨.grow,24,by rw [Jf8];rfl⟩,⟨.grow,1,by rw [Jf8];rfl⟩,fun L r near far=>?_,hg⟩
  exact Vm8 r (mvS s f) (m.length+2) 0 s.nx near far _ hn
 have hn':0<s.nx:=by omega
 have hC:=Vy8 s R f m hR hc h0 h1 hn'
 obtain ⟨TF,hTF⟩:=Xd6 (mvS s f) (m.length+2) 0 (m.length+3) 0 (m.length+4) 0 s.nx (m++[⟨.fix,52,0,0,scC s R⟩,⟨.grow,204,0,24,Jb6 s.nx (mvF s f)⟩,⟨.grow,255,0,16,ndL (Ji5 (prM (mvS s f)) s.nx).2⟩,⟨.grow,3,0,1,iC (Ji5 (prM (mvS s f)) s.nx).1⟩,⟨.grow,204,0,24,Jb6 s.nx (mF (mvS s f))⟩,⟨.grow,3,0,1,iC (Jq7 s s.nx)⟩,⟨.fix,135,0,0,scC s R++(.int .i64 f::.sl (m.length+2) 0 0 (Ji5 (prM (mvS s f)) s.nx).2.length::.sl (m.length+3) 0 0 s.nx::.sl (m.length+4) 0 0 s.nx::.sl (m.length+5) 0 0 (Jq7 s s.nx).length::(vwC (Jn8 s (f*65536))++vwC (Jn8 s (f*65536+s.sh))))⟩]) hn' (by omega) ⟨.grow,16,by rw [Jf8];rfl⟩ ⟨.grow,1,by rw [Jf8];rfl⟩ ⟨.grow,24,by rw [Jf8];rfl⟩
 refine ⟨_,m.length+6,⟨.sl (m.length+2) 0 0 (Ji5 (prM (mvS s f)) s.nx).2.length,.sl (m.length+3) 0 0 s.nx,m.length+4,0,m.length+5,0,TF⟩,hC,?_,fun hw=>by
  refine MWf.app (hw.grow (by simp)) (Ja0 (hR.bel _ (by simp)) (Ja0 (Jc2 _ (fun _=>rfl) _) (Ja0 (Jc2 _ (fun _=>rfl) _) (Ja0 (Jg6 _ _) (Ja0 (Jc2 _ (fun _=>rfl) _) (Ja0 (Jg6 _ _) (Ja0 ?_ Jb8)))))))
  have hb:=hR.bel (m.length+7) (by omega)
  simp only [List.length_append,List.length_cons,List.length_nil]
  rw [List.all_append,hb]
  simp [CV.below,vwC,c3C]⟩
 exact ⟨by rw [Jf8];rfl,hR.app _,⟨.grow,24,by rw [Jf8];rfl⟩,⟨.grow,1,by rw [Jf8];rfl⟩,hTF,hg⟩
theorem Qg7 (s:SC)(R:RWs)(f:Int)(m:Ja1)(hR:ScR 140 119 223 148 155 m s R)(hc:(Jj6 s).1=0)(h0:0<=f)(h1:f<s.fr):∃ (L:Ja1) (p:Nat) (E:SE),Ctr Tryz.prog 10 [.agg (scC s R),.one (.int .i64 f)] m (.tup [(false,[.ptr p 0 0]),(false,[.int .i64 0])]) (m++L)/\SetAt (m++L) p s R f E (Jn8 s (f*65536)) (Jn8 s (f*65536+s.sh)):=by
 obtain ⟨L,p,E,h1,h2,_⟩:=Qw4 s R f m hR hc h0 h1
 exact ⟨L,p,E,h1,h2⟩
noncomputable def Qh1 (s:SC)(f:Int)(a b:VW)(x y:Int):Nat->V
 | 0=>(Jj3 s f a b x y 0).li
 | n+1=>Je0 (Qh1 s f a b x y n) (Jj3 s f a b x y ((n+1:Nat):Int)).li
noncomputable def Xh3 (s:SC)(f:Int)(a b:VW)(x y:Int):SN :=
 ⟨Jw9 (Qh1 s f a b x y (s.sm.toNat - 1)) s.sm,(Jj3 s f a b x y 0).dep,(Jj3 s f a b x y 0).no,(Jj3 s f a b x y 0).po,(Jj3 s f a b x y 0).ba,(Jj3 s f a b x y 0).sh,(Jj3 s f a b x y 0).pt⟩
theorem Xa7 (s:SC)(R:RWs)(f:Int)(E:SE)(a b:VW)(p:Nat)(x y:Int)(m:Ja1)(hS:SetAt m p s R f E a b)(hx0:0<=x)(hx1:x<s.w)(hy0:0<=y)(hy1:y<s.h):Ctr Tryz.prog 15 [.one (.ptr p 0 0),.one (.int .i64 x),.one (.int .i64 y)] m (.agg (snC (Xh3 s f a b x y))) m:=by
 refine Ctr.en Tryz.func15 [.cell 6 61] 47 fun hwf Q hQ=>?_
 have hps:=hS.hp
 have lps:=Jb4 hps
 have hG:=hS.g
 obtain ⟨T0,hT0⟩:∃ T,Jj3 s f a b x y 0=T:=⟨_,rfl⟩
 have hgm:=hG.sm
 obtain ⟨N,hN⟩:∃ N:Nat,N=s.sm.toNat:=⟨_,rfl⟩
 have hNs:s.sm=(N:Int):=by omega
 have hv:snC (Xh3 s f a b x y)=[.int .i64 (Jw9 (Qh1 s f a b x y (N - 1)) s.sm 0),.int .i64 (Jw9 (Qh1 s f a b x y (N - 1)) s.sm 1),.int .i64 (Jw9 (Qh1 s f a b x y (N - 1)) s.sm 2),.int .i64 (T0.dep),.int .i64 (T0.no 0),.int .i64 (T0.no 1),.int .i64 (T0.no 2),.int .i64 (T0.po 0),.int .i64 (T0.po 1),.int .i64 (T0.po 2),.int .i64 (T0.ba 0),.int .i64 (T0.ba 1),.int .i64 (T0.ba 2),.int .i64 (T0.sh),.int .i64 (T0.pt)]:=by unfold Xh3;rw [hT0,<-hN];rfl
 rw [hv] at hQ
 have q_2:=fun M hS=>Qb4 s R f E a b p x y 0 M hS hx0 hx1 hy0 hy1
 rw [hT0,show snC T0=[.int .i64 (T0.li 0),.int .i64 (T0.li 1),.int .i64 (T0.li 2),.int .i64 (T0.dep),.int .i64 (T0.no 0),.int .i64 (T0.no 1),.int .i64 (T0.no 2),.int .i64 (T0.po 0),.int .i64 (T0.po 1),.int .i64 (T0.po 2),.int .i64 (T0.ba 0),.int .i64 (T0.ba 1),.int .i64 (T0.ba 2),.int .i64 (T0.sh),.int .i64 (T0.pt)] from rfl] at q_2
 have U11:=ca4 hps (Ja8 hps) @Vf6 (ca4 @Jg8 @Jg0 @Jg7 (ca2 @Ja4 @Kh7))
 refine AW.c 2 U11 (q_2 _ (hS.app _)) ?_
 refine AW.q fun K hK=>?_
 refine AW.c 1 U11 Z0 ?_
 apply AW.x rfl
 apply AW.z
 apply hK;clear hK
 refine AW.c 1 U11 Z0 ?_
 refine AW.q fun K hK=>?_
 refine AW.c 1 U11 Z0 ?_
 apply AW.b
 refine AW.loopK [0,1,2,6,7,8] (fun i=>i+1<=N) (fun i=>[(9,.one (.int .i64 ((i:Int)+1)))]) (fun i=>[(m.length+2,⟨.fix,42,0,0,[.int .i64 (Qh1 s f a b x y i 0),.int .i64 (Qh1 s f a b x y i 1),.int .i64 (Qh1 s f a b x y i 2)]⟩)]) (fun i=>N - i) 0 (by omega) ?_ ?_ fun i hi3=>?_
 · first|rfl|(simp only [KS,simprocAttr,Qh1,hT0,Int.natCast_zero,Int.zero_add,Int.natCast_one]<;>repeat' (first|rfl|apply And.intro))
 · (simp only [Ja3,push_cast,simprocAttr,Qh1,hT0])<;>rfl
 try simp only [Jb2,Ja3,push_cast,simprocAttr,U11]
 refine AW.q fun K hK=>?_
 refine AW.c 1 U11 Z0 ?_
 refine AW.cond rfl (fun h26=>?_) (fun h26=>?_)
 ·have hlt:i+1<N:=by have:=of_decide_eq_true h26;omega
  obtain ⟨T1,hT1⟩:∃ T,Jj3 s f a b x y ((i+1:Nat):Int)=T:=⟨_,rfl⟩
  have hT2:Jj3 s f a b x y ((i:Int)+1)=T1:=by rw [<-hT1];congr 1
  have hst:Qh1 s f a b x y (i+1)=Je0 (Qh1 s f a b x y i) T1.li:=by rw [<-hT1];rfl
  have hwi:IntKind.i64.wrap ((i:Int)+1+1)=(i:Int)+1+1:=wi (by omega)
  have hsc:snC T1=[.int .i64 (T1.li 0),.int .i64 (T1.li 1),.int .i64 (T1.li 2),.int .i64 (T1.dep),.int .i64 (T1.no 0),.int .i64 (T1.no 1),.int .i64 (T1.no 2),.int .i64 (T1.po 0),.int .i64 (T1.po 1),.int .i64 (T1.po 2),.int .i64 (T1.ba 0),.int .i64 (T1.ba 1),.int .i64 (T1.ba 2),.int .i64 (T1.sh),.int .i64 (T1.pt)]:=rfl
  apply AW.z
  apply hK;clear hK
  refine AW.q fun K hK=>?_
  apply AW.b
  have q_3:=fun M hS=>Qb4 s R f E a b p x y ((i:Int)+1) M hS hx0 hx1 hy0 hy1
  rw [hT2,hsc] at q_3
  have U12:=ca3 U11 hsc hT2
  refine AW.e [.rd 0,.val,.val,.val,.val,.ext,.val,.ext,.wr] fol U12 (ca2 (q_3 _ (hS.app _)) (Qj0 (Qh1 s f a b x y i) T1.li)) ?_
  apply Ja6
  apply hK;clear hK
  refine AW.g U12 Z0 ?_
  apply Jc1
  refine ⟨i+1,by omega,by omega,?_⟩
  try simp only [Jb2,Ja3,push_cast,simprocAttr,U12,hwi,hst,Int.natCast_add,Int.natCast_one]
  exact Weak.to (extra:=_) (by simp only [KS,simprocAttr,hwi,hst,Int.natCast_add,Int.natCast_one]) (by first|rfl|(simp only [List.append_assoc,List.cons_append,List.nil_append];rfl)) (by first|rfl|(simp [AV.below,CV.below];done)|(simp [AV.below,CV.below];omega)) (by exact MWf.app (hwf.grow (by simp)) (Ja0 rfl (Ja0 rfl (Ja0 rfl Jb8))))
 have hin:i=N - 1:=by have:=of_decide_eq_false h26;omega
 rw [hin]
 apply AW.v
 apply Jb0
 clear hK
 apply Jb0
 apply Ja5
 apply hK;clear hK
 refine AW.d [.rd 0,.val,.val,.val,.val,.val,.rd 0,.ext,.val,.wr] fol U11 (Xc9 (Qh1 s f a b x y (N - 1)) s.sm) ?_
 refine AW.c 1 U11 Z0 ?_
 exact AW.ret (hQ _ _ _ (RetP.z hwf Z0))
end Go.Proofs.YtaannomfigammaaGreat
