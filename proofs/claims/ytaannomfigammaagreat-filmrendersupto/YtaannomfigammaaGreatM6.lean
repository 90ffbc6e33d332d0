/- Walks and facts of this seat's program over abstract states, printed by programs of mine; no conditions but those that each theorem names. -/
import Derived.Test.YtaannomfigammaaGreatM5
set_option linter.unusedSimpArgs false
set_option linter.unusedVariables false
set_option maxRecDepth 100000
set_option maxHeartbeats 4000000
namespace Go.Proofs.YtaannomfigammaaGreat
open Go Go.Eng
structure GoS (s:SC):Prop where
 xp:∀ i,i<s.nx->0<=s.xp i/\s.xp i<(s.np:Int)
 nx:s.nx<=128
 lm:(Jr2 s s.nx).length<=16
 w:1<=s.w/\s.w<=64
 h:1<=s.h/\s.h<=64
 dp:1<=s.dp/\s.dp<=6
 sm:1<=s.sm/\s.sm<=16
 fr:1<=s.fr/\s.fr<=32
 sh:0<=s.sh/\s.sh<=65536
structure SE where
 (x0 x1:CV) (sb sv lb lv:Nat) (T:RY->Int->Int->Nat)
def seC (s:SC)(R:RWs)(f:Int)(E:SE)(a b:VW):List CV:=scC s R++(.int .i64 f::E.x0::E.x1::.sl E.sb E.sv 0 s.nx::.sl E.lb E.lv 0 (Jr2 s s.nx).length::(vwC a++vwC b))
structure SetAt (m:Ja1)(p:Nat)(s:SC)(R:RWs)(f:Int)(E:SE)(a b:VW):Prop where
 hp:m[p]?=some ⟨.fix,135,0,0,seC s R f E a b⟩
 hR:ScR 140 119 223 148 155 m s R
 hs:∃ k ez,m[E.sb]?=some ⟨k,204,E.sv,ez,Jb2 s.nx (mF (mvS s f))⟩
 hl:∃ k ez,m[E.lb]?=some ⟨k,3,E.lv,ez,iC (Jr2 s s.nx)⟩
 hF:∀ (L:Ja1) (r:RY) (near far:Int),Ctr Tryz.prog 50 [.agg [E.x0,E.x1,.sl E.sb E.sv 0 s.nx],.agg (ryC r),.one (.int .i64 near),.one (.int .i64 far)] (m++L) (.tup [(true,htC (Jf4 r (mvS s f) (Js2 (Jd1 s f) r near far))),(false,[.bool (Js2 (Jd1 s f) r near far).isSome]),(false,[.int .i64 ((E.T r near far:Nat):Int)])]) (m++L)
 g:GoS s
theorem SetAt.app {m:Ja1}{p:Nat}{s:SC}{R:RWs}{f:Int}{E:SE}{a b:VW}(h:SetAt m p s R f E a b)(L:Ja1):SetAt (m++L) p s R f E a b where
 hp:=Ja4 h.hp L
 hR:=h.hR.app L
 hs:=by obtain ⟨k,e,q⟩:=h.hs;exact ⟨k,e,Ja4 q L⟩
 hl:=by obtain ⟨k,e,q⟩:=h.hl;exact ⟨k,e,Ja4 q L⟩
 hF:=fun L2 r near far=>by rw [List.append_assoc];exact h.hF (L++L2) r near far
 g:=h.g
theorem Qq6 (s:SC)(R:RWs)(f:Int)(E:SE)(a b:VW):seC s R f E a b=(scC s R++(.int .i64 f::E.x0::E.x1::.sl E.sb E.sv 0 s.nx::.sl E.lb E.lv 0 (Jr2 s s.nx).length::(vwC a++vwC b))):=rfl
theorem Km6 (s:SC)(R:RWs)(f:Int)(E:SE)(a b:VW)(p:Nat)(i:Nat)(m:Ja1)(hS:SetAt m p s R f E a b)(hi:i<s.nx):Ctr Tryz.prog 53 [.one (.ptr p 0 0),.one (.int .i64 ((i:Int)))] m (.agg (pC s (s.xp i).toNat)) m:=by
 refine Ctr.en Tryz.func53 [.cell 4 140] 22 fun hwf Q hQ=>?_
 have hG:=hS.g
 have hps:=hS.hp
 have lps:=Ja7 hps
 obtain ⟨kp,ep,hp⟩:=hS.hR.hp
 have lp:=Ja7 hp
 obtain ⟨kx,ex,hx⟩:=hS.hR.hx
 have lx:=Ja7 hx
 have np:=hS.hR.np
 have nx:=hS.hR.nx
 have pl:(Jb2 s.np (pC s)).length=s.np*5:=Ja6 (w:=5) (F:=pC s) (fun _=>rfl) _
 have xl:(Jb2 s.nx (xC s)).length=s.nx*13:=Ja6 (w:=13) (F:=xC s) (fun _=>rfl) _
 obtain ⟨j,hj⟩:∃ j,j=(s.xp i).toNat:=⟨_,rfl⟩
 have hxj:s.xp i=(j:Int):=by have:=hG.xp i hi;omega
 have hjn:j<s.np:=by have:=hG.xp i hi;omega
 have d1:(0:Int)<=(j:Int):=by omega
 have d2:(j:Int)<(s.np:Int):=by omega
 have d3:j*5+5<=s.np*5:=by omega
 have d4:=Jb7 (w:=5) (F:=pC s) (fun _=>rfl) hjn
 have d5:=Kd0 s j
 have d6:List.take 3 (List.drop (j*5+1) (Jb2 s.np (pC s)))=[.int .i64 (s.pc j 0),.int .i64 (s.pc j 1),.int .i64 (s.pc j 2)]:=by
   have e:(Jb2 s.np (pC s)).drop (j*5+1)=((Jb2 s.np (pC s)).drop (j*5)).drop 1:=by rw [List.drop_drop]
   have q:=congrArg (fun l=>List.take 3 (List.drop 1 l)) (d4.trans d5)
   rw [List.drop_take,List.take_take] at q
   rw [e];exact q
 have d7:j*5+1+3<=s.np*5:=by omega
 have x1:(0:Int)<=(i:Int):=by omega
 have x2:(i:Int)<(s.nx:Int):=by omega
 have x3:i*13+13<=s.nx*13:=by omega
 have x4:(Jb2 s.nx (xC s))[i*13+1]?=some (.int .i64 (s.xp i)):=Jg9 (w:=13) (F:=xC s) (fun _=>rfl) hi (a:=1) (by omega)
 rw [<-hj] at hQ
 have U1:=ca4 hps (Ja4 hps) hp (ca4 (Ja4 hp) hx (Ja4 hx) (ca4 pl xl @Qq6 (ca4 @Jg0 @Jf6 @Jf9 (ca4 @Ja5 @Jn5 hxj (ca4 d1 d2 d3 (ca4 d4 d5 d6 (ca4 d7 x1 x2 (ca4 x3 x4 hjn hi))))))))
 exact AW.fd [[.val,.val,.val,.val,.rd 0,.val,.val,.val,.val,.rd 0,.val,.val,.val,.val,.rd 0,.val,.rd 0,.wr]] U1 Tru
theorem kyC_e (k:KY):kyC k=(Jn1 k.sd k.fr k.px k.sm):=rfl
theorem Xy6 (s:SC)(R:RWs)(f:Int)(E:SE)(a b:VW)(p:Nat)(k:KY)(d:Int)(h:HT)(hi:Nat)(t9:Int)(m:Ja1)(hS:SetAt m p s R f E a b)(hd:0<=d/\d<=1000)(hhi:h.i=(hi:Int))(hiH:hi<s.nx):Ctr Tryz.prog 54 [.one (.ptr p 0 0),.agg (kyC k),.one (.int .i64 d),.agg (htC h),.one (.int .i64 t9)] m (.agg (c3C (Jm4 (Jd1 s f) k d h hi t9))) m:=by
 refine Ctr.en Tryz.func54 [.cell 10 42] 121 fun hwf Q hQ=>?_
 have hG:=hS.g
 have hps:=hS.hp
 have lps:=Ja7 hps
 obtain ⟨kp,ep,hp⟩:=hS.hR.hp
 have lp:=Ja7 hp
 obtain ⟨kx,ex,hx⟩:=hS.hR.hx
 have lx:=Ja7 hx
 have np:=hS.hR.np
 have nx:=hS.hR.nx
 have pl:(Jb2 s.np (pC s)).length=s.np*5:=Ja6 (w:=5) (F:=pC s) (fun _=>rfl) _
 have xl:(Jb2 s.nx (xC s)).length=s.nx*13:=Ja6 (w:=13) (F:=xC s) (fun _=>rfl) _
 have hFi:=hS.hF
 obtain ⟨ks,es,hs⟩:=hS.hs
 have ls:=Ja7 hs
 obtain ⟨kl,el,hl⟩:=hS.hl
 have ll:=Ja7 hl
 have sc:(Jb2 s.nx (mF (mvS s f))).length=s.nx*24:=Ja6 (w:=24) (F:=mF (mvS s f)) (fun _=>rfl) _
 obtain ⟨lm,hlm⟩:∃ l,l=Jr2 s s.nx:=⟨_,rfl⟩
 have hwl:(Jd1 s f).lm=lm:=hlm.symm
 have hl16:=hS.g.lm
 have hllt:=Kw3 s s.nx
 rw [<-hlm] at hl hl16 hllt
 have lc:(iC lm).length=lm.length:=Jg5 _
 have wd1:IntKind.i64.wrap (d+1)=d+1:=wi (by omega)
 have wd2:IntKind.i64.wrap (d+2)=d+2:=wi (by omega)
 have U2:=ca4 hps (Ja4 hps) hs (ca4 (Ja4 hs) hl (Ja4 hl) (ca4 sc lc @Qq6 (ca4 @Jg0 @Jf6 @Jf9 (ca4 @Ja5 @Jn5 @Ji7 (ca4 @kyC_e @Kn5 hhi (ca3 wd1 wd2 hlm.symm))))))
 refine AW.c 1 U2 Tru ?_
 refine AW.q fun K J0=>?_
 refine AW.q fun K J1=>?_
 by_cases h0:lm=[]
 ·have hv:Jm4 (Jd1 s f) k d h hi t9=z0V:=by unfold Jm4;rw [hwl,if_pos h0]
  rw [hv] at hQ
  have e0:((lm.length:Int) ==0)=true:=by rw [h0];rfl
  have U3:=ca3 U2 e0 @Jm5
  refine AW.g U3 Tru ?_
  apply J1
  apply AW.y rfl
  refine AW.c 1 U3 Tru ?_
  exact AW.ret (hQ _ _ _ (RetP.z hwf Tru))
 have e0:((lm.length:Int) ==0)=false:=by have:=List.length_pos_iff.2 h0;simp;omega
 have hpos:=List.length_pos_iff.2 h0
 obtain ⟨jx,hjx,hjl⟩:∃ jx:Nat,Jo7 k.sd k.fr k.px k.sm d (lm.length:Int)=(jx:Int)/\jx<lm.length:=by
   unfold Jo7
   rw [if_neg (by omega)]
   obtain ⟨z,hz⟩:∃ z,z=Jw6 k.sd k.fr k.px k.sm d / 2%(lm.length:Int):=⟨_,rfl⟩
   have m1:=Int.emod_nonneg (Jw6 k.sd k.fr k.px k.sm d / 2) (show (lm.length:Int)≠0 by omega)
   have m2:=Int.emod_lt_of_pos (Jw6 k.sd k.fr k.px k.sm d / 2) (show 0<(lm.length:Int) by omega)
   rw [<-hz] at m1 m2 ⊢
   exact ⟨z.toNat,(Int.toNat_of_nonneg m1).symm,by omega⟩
 obtain ⟨l,hl9⟩:∃ l,l=lm.getD jx 0:=⟨_,rfl⟩
 have hli:Qb9 (Jd1 s f) k d=l:=by unfold Qb9;rw [hwl,hjx,Int.toNat_natCast,<-hl9]
 have hcl:(iC lm)[jx]?=some (.int .i64 (l:Int)):=by rw [hl9];exact Kn9 hjl
 have hiL:l<s.nx:=hllt l (by rw [hl9,List.getD_eq_getElem?_getD,List.getElem?_eq_getElem hjl];exact List.getElem_mem _)
 have j1:(0:Int)<=(jx:Int):=by omega
 have j2:(jx:Int)<(lm.length:Int):=by omega
 have s1:(0:Int)<=(l:Int):=by omega
 have s2:(l:Int)<(s.nx:Int):=by omega
 have s3:l*24+24<=s.nx*24:=by omega
 have s4:=Jb7 (w:=24) (F:=mF (mvS s f)) (fun _=>rfl) hiL
 have s5:mF (mvS s f) l=[.int .i64 (mvS s f l).A.kind,.int .i64 (mvS s f l).A.paint,.int .i64 ((mvS s f l).A.P 0 0),.int .i64 ((mvS s f l).A.P 0 1),.int .i64 ((mvS s f l).A.P 0 2),.int .i64 ((mvS s f l).A.P 1 0),.int .i64 ((mvS s f l).A.P 1 1),.int .i64 ((mvS s f l).A.P 1 2),.int .i64 ((mvS s f l).A.P 2 0),.int .i64 ((mvS s f l).A.P 2 1),.int .i64 ((mvS s f l).A.P 2 2),.int .i64 (mvS s f l).A.r,.int .i64 (mvS s f l).B.kind,.int .i64 (mvS s f l).B.paint,.int .i64 ((mvS s f l).B.P 0 0),.int .i64 ((mvS s f l).B.P 0 1),.int .i64 ((mvS s f l).B.P 0 2),.int .i64 ((mvS s f l).B.P 1 0),.int .i64 ((mvS s f l).B.P 1 1),.int .i64 ((mvS s f l).B.P 1 2),.int .i64 ((mvS s f l).B.P 2 0),.int .i64 ((mvS s f l).B.P 2 1),.int .i64 ((mvS s f l).B.P 2 2),.int .i64 (mvS s f l).B.r]:=rfl
 have U4:=ca4 U2 e0 hcl (ca4 j1 j2 hjl (ca4 s1 s2 s3 (ca3 s4 s5 hiL)))
 refine AW.g U4 Tru ?_
 apply J1
 apply AW.x rfl
 apply AW.z
 apply J0
 have q_1:=Xq4 k.sd k.fr k.px k.sm d (lm.length:Int)
 rw [hjx] at q_1
 refine AW.d [.val,.val,.val,.rd 0,.rd 0,.val,.val,.val,.val,.rd 0,.val,.ext,.val,.rd 1,.val] fol U4 (q_1 _ (by omega)) ?_
 refine AW.q fun K J0=>?_
 refine AW.q fun K J1=>?_
 by_cases h1:l=hi
 ·have hv:Jm4 (Jd1 s f) k d h hi t9=z0V:=by unfold Jm4;rw [hwl,if_neg h0,hli,if_pos h1]
  rw [hv] at hQ
  have e1:((l:Int) ==(hi:Int))=true:=by rw [h1];simp
  have U5:=ca3 U4 e1 @Jm5
  refine AW.g U5 Tru ?_
  apply J1
  apply AW.y rfl
  refine AW.c 1 U5 Tru ?_
  exact AW.ret (hQ _ _ _ (RetP.z hwf Tru))
 have e1:((l:Int) ==(hi:Int))=false:=by simp;omega
 obtain ⟨Q,hQ9⟩:∃ Q,Q=Qb8 (Jd1 s f) k d t9:=⟨_,rfl⟩
 have hQs:Ke7 (atM (mvS s f l) t9) (k.u (d+1)) (k.u (d+2))=Q:=by rw [hQ9];unfold Qb8;rw [hli];rfl
 obtain ⟨rc,hrc⟩:∃ rc,rc=Jr7 h.p h.n Q:=⟨_,rfl⟩
 obtain ⟨U,hU⟩:∃ U,U=Jb5 (Ja8 Q h.p):=⟨_,rfl⟩
 obtain ⟨FA,hFA⟩:∃ FA,FA=Kb7 (Ja8 Q h.p):=⟨_,rfl⟩
 have U6:=ca2 U4 e1
 refine AW.g U6 Tru ?_
 apply J1
 apply AW.x rfl
 apply AW.z
 apply J0
 have q_2:=Xu9 (atM (mvS s f l) t9) (k.u (d+1)) (k.u (d+2))
 rw [hQs] at q_2
 refine AW.d [.val,.val,.val,.val,.rd 0,.val,.val,.rd 0,.val,.ext,.rd 0,.val,.val,.ext,.rd 0,.val,.val,.ext,.ext,.fl,.wr] fol U6 (ca4 (at_c (mvS s f l) t9) (Vh1 k.sd k.fr k.px k.sm (d+1)) (Vh1 k.sd k.fr k.px k.sm (d+2)) q_2) ?_
 have q_3:=Xi4 h.p h.n Q
 rw [<-hrc,<-hU,<-hFA] at q_3
 refine AW.c 1 U6 q_3 ?_
 refine AW.q fun K J0=>?_
 refine AW.q fun K J1=>?_
 by_cases h2:rc=0
 ·have hv:Jm4 (Jd1 s f) k d h hi t9=z0V:=by unfold Jm4;rw [hwl,if_neg h0,hli,if_neg h1,if_pos (by rw [<-hQ9,<-hrc];exact h2)]
  rw [hv] at hQ
  have e2:(rc ==0)=true:=beq_iff_eq.2 h2
  have U7:=ca3 U6 e2 @Jm5
  refine AW.g U7 Tru ?_
  apply J1
  apply AW.y rfl
  refine AW.c 1 U7 Tru ?_
  exact AW.ret (hQ _ _ _ (RetP.z hwf Tru))
 have e2:(rc ==0)=false:=by simpa using h2
 obtain ⟨r9,hr9⟩:∃ r:RY,r=⟨h.p,U,t9⟩:=⟨_,rfl⟩
 have hr8:ryC r9=[.int .i64 (h.p 0),.int .i64 (h.p 1),.int .i64 (h.p 2),.int .i64 (U 0),.int .i64 (U 1),.int .i64 (U 2),.int .i64 t9]:=by rw [hr9];rfl
 obtain ⟨G,hG⟩:∃ G,G=Xm7 (Jd1 s f) k d h t9:=⟨_,rfl⟩
 have hGf:Js2 (Jd1 s f) r9 1024 FA=G:=by rw [hG,hr9,hU,hFA,hQ9];rfl
 have U8:=ca2 U6 e2
 refine AW.g U8 Tru ?_
 apply J1
 apply AW.x rfl
 apply AW.z
 apply J0
 refine AW.q fun K J0=>?_
 refine AW.q fun K J1=>?_
 have hk10:G=none\/(∃ u9,G=some (u9,l))\/(∃ u9 j9,G=some (u9,j9)/\¬j9=l):=by
   rcases hG0:G with _|⟨u9,j9⟩
   · exact .inl rfl
   by_cases h3:j9=l
   · exact .inr (.inl ⟨u9,by rw [h3]⟩)
   exact .inr (.inr ⟨u9,j9,rfl,h3⟩)
 rcases hk10 with hG0|⟨u9,hG0⟩|⟨u9,j9,hG0,h3⟩
 ·have hb0:¬Xy8 l none=true:=fun q=>(nomatch q)
  have hz8:htC (Jf4 r9 (mvS s f) none)=[.int .i64 0,.int .i64 0,.int .i64 0,.int .i64 0,.int .i64 0,.int .i64 0,.int .i64 0,.int .i64 0]:=rfl
  obtain ⟨jh,hjH⟩:∃ j,j=(s.xp hi).toNat:=⟨_,rfl⟩
  obtain ⟨jl,hjK⟩:∃ j,j=(s.xp l).toNat:=⟨_,rfl⟩
  have dH:=Kd0 s jh
  have dK:=Kd0 s jl
  have hv:Jm4 (Jd1 s f) k d h hi t9=Jd8 (Jd9 (s.pc jh) (s.pc jl)) (Jd3 rc (ofI (lm.length:Int))):=by
    unfold Jm4
    rw [hwl,if_neg h0,hli,if_neg h1,if_neg (by rw [<-hQ9,<-hrc];exact h2),if_neg (by rw [<-hG,hG0];exact hb0),<-hQ9,<-hrc]
    show Jd8 (Jd9 (s.pc (s.xp hi).toNat) (s.pc (s.xp l).toNat)) _=_
    rw [<-hjH,<-hjK]
  rw [hv] at hQ
  have q_4:=fun L=>hFi L r9 1024 FA
  rw [hGf,hG0,hr8] at q_4
  have U9:=ca4 U8 hz8 dH dK
  refine AW.e [.val,.val,.val,.rd 0,.val,.rd 0,.rd 0,.val,.val,.val,.ext,.val,.val,.val,.val,.fl,.wr,.val,.val] fol U9 q_4 ?_
  apply J1
  refine AW.c 1 U9 Tru ?_
  apply AW.x rfl
  apply AW.z
  apply J0
  have q_5:=Km6 s R f E a b p hi
  rw [<-hjH] at q_5
  have q_6:=Km6 s R f E a b p l
  rw [<-hjK] at q_6
  refine AW.c 1 U9 (ca3 (q_5 _ (hS.app _) hiH) (q_6 _ (hS.app _) hiL) (Ko0 (s.pc jh) (s.pc jl))) ?_
  refine AW.d [.rd 0,.val,.val,.val,.val,.rd 0,.val,.ext,.ext,.ext,.wr] fol U9 (ca3 Vq1 Jk7 (Qm7 (Jd9 (s.pc jh) (s.pc jl)) (Jd3 rc (ofI (lm.length:Int))))) ?_
  exact AW.ret (hQ _ _ _ (RetP.z hwf Tru))
 ·have hz9:(Jf4 r9 (mvS s f) (some (u9,l))).i=(l:Int):=rfl
  have e3:((l:Int) !=(l:Int))=false:=by simp
  have hb0:¬Xy8 l (some (u9,l))=true:=by show ¬(!(l ==l))=true;simp
  obtain ⟨jh,hjH⟩:∃ j,j=(s.xp hi).toNat:=⟨_,rfl⟩
  obtain ⟨jl,hjK⟩:∃ j,j=(s.xp l).toNat:=⟨_,rfl⟩
  have dH:=Kd0 s jh
  have dK:=Kd0 s jl
  have hv:Jm4 (Jd1 s f) k d h hi t9=Jd8 (Jd9 (s.pc jh) (s.pc jl)) (Jd3 rc (ofI (lm.length:Int))):=by
    unfold Jm4
    rw [hwl,if_neg h0,hli,if_neg h1,if_neg (by rw [<-hQ9,<-hrc];exact h2),if_neg (by rw [<-hG,hG0];exact hb0),<-hQ9,<-hrc]
    show Jd8 (Jd9 (s.pc (s.xp hi).toNat) (s.pc (s.xp l).toNat)) _=_
    rw [<-hjH,<-hjK]
  rw [hv] at hQ
  have q_7:=fun L=>hFi L r9 1024 FA
  rw [hGf,hG0,hr8] at q_7
  have U10:=ca4 U8 hz9 e3 (ca2 dH dK)
  refine AW.e [.val,.val,.val,.rd 0,.val,.rd 0,.rd 0,.val,.val,.val,.ext,.val,.val,.val,.val,.fl,.wr,.val,.val] fol U10 q_7 ?_
  apply J1
  refine AW.c 1 U10 Tru ?_
  apply AW.x rfl
  apply AW.z
  apply J0
  have q_8:=Km6 s R f E a b p hi
  rw [<-hjH] at q_8
  have q_9:=Km6 s R f E a b p l
  rw [<-hjK] at q_9
  refine AW.c 1 U10 (ca3 (q_8 _ (hS.app _) hiH) (q_9 _ (hS.app _) hiL) (Ko0 (s.pc jh) (s.pc jl))) ?_
  refine AW.d [.rd 0,.val,.val,.val,.val,.rd 0,.val,.ext,.ext,.ext,.wr] fol U10 (ca3 Vq1 Jk7 (Qm7 (Jd9 (s.pc jh) (s.pc jl)) (Jd3 rc (ofI (lm.length:Int))))) ?_
  exact AW.ret (hQ _ _ _ (RetP.z hwf Tru))
 have hz9:(Jf4 r9 (mvS s f) (some (u9,j9))).i=(j9:Int):=rfl
 have e3:((j9:Int) !=(l:Int))=true:=by simp;omega
 have hv:Jm4 (Jd1 s f) k d h hi t9=z0V:=by unfold Jm4;rw [hwl,if_neg h0,hli,if_neg h1,if_neg (by rw [<-hQ9,<-hrc];exact h2),if_pos (by rw [<-hG,hG0];show (!(j9 ==l))=true;simpa using h3)]
 rw [hv] at hQ
 have q_10:=fun L=>hFi L r9 1024 FA
 rw [hGf,hG0,hr8] at q_10
 have U11:=ca4 U8 hz9 e3 @Jm5
 refine AW.e [.val,.val,.val,.rd 0,.val,.rd 0,.rd 0,.val,.val,.val,.ext,.val,.val,.val,.val,.fl,.wr,.val,.val] fol U11 q_10 ?_
 apply J1
 refine AW.c 1 U11 Tru ?_
 apply AW.y rfl
 refine AW.c 1 U11 Tru ?_
 exact AW.ret (hQ _ _ _ (RetP.z hwf Tru))
theorem Xg3 (s:SC)(R:RWs)(f:Int)(lr lv:Nat)(k:KY)(d:Int)(h:HT)(hi:Nat)(t9:Int)(m:Ja1)(hR:ScR 138 143 285 146 150 m s R)(hm:∃ k ez,m[lr]?=some ⟨k,78,lv,ez,Jb2 s.nx (mF (mvS s f))⟩)(hG:GoS s)(hd:0<=d/\d<=1000)(hhi:h.i=(hi:Int))(hiH:hi<s.nx):Ctr Tryz.prog 63 [.agg (scC s R),.one (.sl lr lv 0 s.nx),.agg (kyC k),.one (.int .i64 d),.agg (htC h),.one (.int .i64 t9)] m (.agg (c3C (Jm4 (Jd1 s f) k d h hi t9))) m:=by
 refine Ctr.en Tryz.func63 [.cell 12 24] 119 fun hwf Q hQ=>?_
 obtain ⟨kp,ep,hp⟩:=hR.hp
 have lp:=Ja7 hp
 obtain ⟨kx,ex,hx⟩:=hR.hx
 have lx:=Ja7 hx
 have np:=hR.np
 have nx:=hR.nx
 have pl:(Jb2 s.np (pC s)).length=s.np*5:=Ja6 (w:=5) (F:=pC s) (fun _=>rfl) _
 have xl:(Jb2 s.nx (xC s)).length=s.nx*13:=Ja6 (w:=13) (F:=xC s) (fun _=>rfl) _
 obtain ⟨ks,es,hs⟩:=hm
 have ls:=Ja7 hs
 have sc:(Jb2 s.nx (mF (mvS s f))).length=s.nx*24:=Ja6 (w:=24) (F:=mF (mvS s f)) (fun _=>rfl) _
 obtain ⟨lm,hlm⟩:∃ l,l=Jr2 s s.nx:=⟨_,rfl⟩
 have hwl:(Jd1 s f).lm=lm:=hlm.symm
 have hl16:=hG.lm
 have hllt:=Kw3 s s.nx
 rw [<-hlm] at hl16 hllt
 have lc:(iC lm).length=lm.length:=Jg5 _
 have wd1:IntKind.i64.wrap (d+1)=d+1:=wi (by omega)
 have wd2:IntKind.i64.wrap (d+2)=d+2:=wi (by omega)
 refine AW.sr 2 fun K J0=>?_
 have U1:=ca4 hp (Ja4 hp) hx (ca4 (Ja4 hx) hs (Ja4 hs) (ca4 pl xl sc (ca4 lc hhi wd1 wd2)))
 simp only [push_cast,simprocAttr,scC,hdC,tlC,c3C,htC,kyC,Jn1,U1]
 refine CThen.by ((by have h9:=fun M hR=>Xv9 s R M hR;rw [Kd4,Jy0,<-hlm] at h9;exact h9 _ (hR.app _))) ?_
 simp only [push_cast,simprocAttr,scC,hdC,tlC,c3C,htC,kyC,Jn1,U1]
 refine AW.w 2 Tru Tru fun K J0=>?_
 refine AW.q fun K J1=>?_
 by_cases h0:lm=[]
 ·have hv:Jm4 (Jd1 s f) k d h hi t9=z0V:=by unfold Jm4;rw [hwl,if_pos h0]
  rw [hv] at hQ
  have e0:((lm.length:Int) ==0)=true:=by rw [h0];rfl
  refine AW.rg ?_
  simp only [push_cast,simprocAttr,scC,hdC,tlC,c3C,htC,kyC,Jn1,U1,e0,z0V]
  refine AW.w 2 Tru Tru ?_
  refine AW.sr 1 fun K J1=>?_
  simp only [push_cast,simprocAttr,scC,hdC,tlC,c3C,htC,kyC,Jn1,U1,e0,z0V]
  refine AW.w 2 Tru Tru ?_
  refine hQ _ _ _ ?_
  first|refine RetP.drop0 (by first|exact Or.inr rfl|exact Or.inl rfl) ?_ ?_ hwf|refine RetP.drop (by first|exact Or.inr rfl|exact Or.inl rfl) ?_ ?_ hwf
  · (simp only [Je0,Jb1,Jb9,AV.tv,push_cast,simprocAttr])<;>rfl
  rfl
 have e0:((lm.length:Int) ==0)=false:=by have:=List.length_pos_iff.2 h0;simp;omega
 have hpos:=List.length_pos_iff.2 h0
 obtain ⟨jx,hjx,hjl⟩:∃ jx:Nat,Jo7 k.sd k.fr k.px k.sm d (lm.length:Int)=(jx:Int)/\jx<lm.length:=by
   unfold Jo7
   rw [if_neg (by omega)]
   obtain ⟨z,hz⟩:∃ z,z=Jw6 k.sd k.fr k.px k.sm d / 2%(lm.length:Int):=⟨_,rfl⟩
   have m1:=Int.emod_nonneg (Jw6 k.sd k.fr k.px k.sm d / 2) (show (lm.length:Int)≠0 by omega)
   have m2:=Int.emod_lt_of_pos (Jw6 k.sd k.fr k.px k.sm d / 2) (show 0<(lm.length:Int) by omega)
   rw [<-hz] at m1 m2 ⊢
   exact ⟨z.toNat,(Int.toNat_of_nonneg m1).symm,by omega⟩
 obtain ⟨l,hl9⟩:∃ l,l=lm.getD jx 0:=⟨_,rfl⟩
 have hli:Qb9 (Jd1 s f) k d=l:=by unfold Qb9;rw [hwl,hjx,Int.toNat_natCast,<-hl9]
 have hcl:(iC lm)[jx]?=some (.int .i64 (l:Int)):=by rw [hl9];exact Kn9 hjl
 have hiL:l<s.nx:=hllt l (by rw [hl9,List.getD_eq_getElem?_getD,List.getElem?_eq_getElem hjl];exact List.getElem_mem _)
 have j1:(0:Int)<=(jx:Int):=by omega
 have j2:(jx:Int)<(lm.length:Int):=by omega
 have s1:(0:Int)<=(l:Int):=by omega
 have s2:(l:Int)<(s.nx:Int):=by omega
 have s3:l*24+24<=s.nx*24:=by omega
 have s4:=Jb7 (w:=24) (F:=mF (mvS s f)) (fun _=>rfl) hiL
 have s5:mF (mvS s f) l=[.int .i64 (mvS s f l).A.kind,.int .i64 (mvS s f l).A.paint,.int .i64 ((mvS s f l).A.P 0 0),.int .i64 ((mvS s f l).A.P 0 1),.int .i64 ((mvS s f l).A.P 0 2),.int .i64 ((mvS s f l).A.P 1 0),.int .i64 ((mvS s f l).A.P 1 1),.int .i64 ((mvS s f l).A.P 1 2),.int .i64 ((mvS s f l).A.P 2 0),.int .i64 ((mvS s f l).A.P 2 1),.int .i64 ((mvS s f l).A.P 2 2),.int .i64 (mvS s f l).A.r,.int .i64 (mvS s f l).B.kind,.int .i64 (mvS s f l).B.paint,.int .i64 ((mvS s f l).B.P 0 0),.int .i64 ((mvS s f l).B.P 0 1),.int .i64 ((mvS s f l).B.P 0 2),.int .i64 ((mvS s f l).B.P 1 0),.int .i64 ((mvS s f l).B.P 1 1),.int .i64 ((mvS s f l).B.P 1 2),.int .i64 ((mvS s f l).B.P 2 0),.int .i64 ((mvS s f l).B.P 2 1),.int .i64 ((mvS s f l).B.P 2 2),.int .i64 (mvS s f l).B.r]:=rfl
 refine AW.rg ?_
 have U2:=ca4 U1 e0 hcl (ca4 j1 j2 hjl (ca4 s1 s2 s3 (ca3 s4 s5 hiL)))
 simp only [push_cast,simprocAttr,scC,hdC,tlC,c3C,htC,kyC,Jn1,U2]
 refine AW.w 4 Tru Tru ?_
 refine AW.sr 1 fun K J0=>?_
 simp only [push_cast,simprocAttr,scC,hdC,tlC,c3C,htC,kyC,Jn1,U2]
 refine CThen.by ((by have h9:=Vp2 k.sd k.fr k.px k.sm d (lm.length:Int);rw [hjx] at h9;exact h9 _ (by omega))) ?_
 simp only [push_cast,simprocAttr,scC,hdC,tlC,c3C,htC,kyC,Jn1,U2]
 refine AW.w 2 Tru Tru fun K J0=>?_
 refine AW.q fun K J1=>?_
 by_cases h1:l=hi
 ·have hv:Jm4 (Jd1 s f) k d h hi t9=z0V:=by unfold Jm4;rw [hwl,if_neg h0,hli,if_pos h1]
  rw [hv] at hQ
  have e1:((l:Int) ==(hi:Int))=true:=by rw [h1];simp
  refine AW.rg ?_
  simp only [push_cast,simprocAttr,scC,hdC,tlC,c3C,htC,kyC,Jn1,U2,e1,z0V]
  refine AW.w 2 Tru Tru ?_
  refine AW.sr 1 fun K J1=>?_
  simp only [push_cast,simprocAttr,scC,hdC,tlC,c3C,htC,kyC,Jn1,U2,e1,z0V]
  refine AW.w 2 Tru Tru ?_
  refine hQ _ _ _ ?_
  first|refine RetP.drop0 (by first|exact Or.inr rfl|exact Or.inl rfl) ?_ ?_ hwf|refine RetP.drop (by first|exact Or.inr rfl|exact Or.inl rfl) ?_ ?_ hwf
  · (simp only [Je0,Jb1,Jb9,AV.tv,push_cast,simprocAttr])<;>rfl
  rfl
 have e1:((l:Int) ==(hi:Int))=false:=by simp;omega
 obtain ⟨Q,hQ9⟩:∃ Q,Q=Qb8 (Jd1 s f) k d t9:=⟨_,rfl⟩
 have hQs:Ke7 (atM (mvS s f l) t9) (k.u (d+1)) (k.u (d+2))=Q:=by rw [hQ9];unfold Qb8;rw [hli];rfl
 obtain ⟨rc,hrc⟩:∃ rc,rc=Jr7 h.p h.n Q:=⟨_,rfl⟩
 obtain ⟨U,hU⟩:∃ U,U=Jb5 (Ja8 Q h.p):=⟨_,rfl⟩
 obtain ⟨FA,hFA⟩:∃ FA,FA=Kb7 (Ja8 Q h.p):=⟨_,rfl⟩
 refine AW.rg ?_
 simp only [push_cast,simprocAttr,scC,hdC,tlC,c3C,htC,kyC,Jn1,U2,e1]
 refine AW.w 4 Tru Tru ?_
 refine AW.q fun K J0=>?_
 refine AW.draw [.val,.val,.val,.rd 0,.val,.ext,.rd 0,.val,.val,.ext,.rd 0,.val,.val,.ext,.ext,.fl,.wr] fol (by decide) (by kernel_rfl) ?_
 simp only [push_cast,simprocAttr,scC,hdC,tlC,c3C,htC,kyC,Jn1,U2,e1]
 refine DCall.z (Qk1 (mvS s f l) t9 _) ?_
 simp only [push_cast,simprocAttr,scC,hdC,tlC,c3C,htC,kyC,Jn1,U2,e1]
 refine DCall.z (Qf6 k.sd k.fr k.px k.sm (d+1) _) ?_
 simp only [push_cast,simprocAttr,scC,hdC,tlC,c3C,htC,kyC,Jn1,U2,e1]
 refine DCall.z (Qf6 k.sd k.fr k.px k.sm (d+2) _) ?_
 simp only [push_cast,simprocAttr,scC,hdC,tlC,c3C,htC,kyC,Jn1,U2,e1]
 refine DCall.z ((by have h9:=Xf3 (atM (mvS s f l) t9) (k.u (d+1)) (k.u (d+2));rw [hQs] at h9;exact h9 _)) ?_
 simp only [push_cast,simprocAttr,scC,hdC,tlC,c3C,htC,kyC,Jn1,U2,e1]
 apply J0
 refine AW.sr 1 fun K J0=>?_
 simp only [push_cast,simprocAttr,scC,hdC,tlC,c3C,htC,kyC,Jn1,U2,e1]
 refine CThen.by ((by have h9:=Vo3 h.p h.n Q;rw [<-hrc,<-hU,<-hFA] at h9;exact h9 _)) ?_
 simp only [push_cast,simprocAttr,scC,hdC,tlC,c3C,htC,kyC,Jn1,U2,e1]
 refine AW.w 2 Tru Tru fun K J0=>?_
 refine AW.q fun K J1=>?_
 by_cases h2:rc=0
 ·have hv:Jm4 (Jd1 s f) k d h hi t9=z0V:=by unfold Jm4;rw [hwl,if_neg h0,hli,if_neg h1,if_pos (by rw [<-hQ9,<-hrc];exact h2)]
  rw [hv] at hQ
  have e2:(rc ==0)=true:=beq_iff_eq.2 h2
  refine AW.rg ?_
  simp only [push_cast,simprocAttr,scC,hdC,tlC,c3C,htC,kyC,Jn1,U2,e1,e2,z0V]
  refine AW.w 2 Tru Tru ?_
  refine AW.sr 1 fun K J1=>?_
  simp only [push_cast,simprocAttr,scC,hdC,tlC,c3C,htC,kyC,Jn1,U2,e1,e2,z0V]
  refine AW.w 2 Tru Tru ?_
  refine hQ _ _ _ ?_
  first|refine RetP.drop0 (by first|exact Or.inr rfl|exact Or.inl rfl) ?_ ?_ hwf|refine RetP.drop (by first|exact Or.inr rfl|exact Or.inl rfl) ?_ ?_ hwf
  · (simp only [Je0,Jb1,Jb9,AV.tv,push_cast,simprocAttr])<;>rfl
  rfl
 have e2:(rc ==0)=false:=by simpa using h2
 obtain ⟨r9,hr9⟩:∃ r:RY,r=⟨h.p,U,t9⟩:=⟨_,rfl⟩
 have hr8:ryC r9=[.int .i64 (h.p 0),.int .i64 (h.p 1),.int .i64 (h.p 2),.int .i64 (U 0),.int .i64 (U 1),.int .i64 (U 2),.int .i64 t9]:=by rw [hr9];rfl
 obtain ⟨G,hG9⟩:∃ G,G=Xm7 (Jd1 s f) k d h t9:=⟨_,rfl⟩
 have hGf:Jg8 (Hq r9 (mvS s f) 1024 FA) s.nx=G:=by rw [hG9,hr9,hU,hFA,hQ9];rfl
 refine AW.rg ?_
 simp only [push_cast,simprocAttr,scC,hdC,tlC,c3C,htC,kyC,Jn1,U2,e1,e2]
 refine AW.w 4 Tru Tru ?_
 refine AW.q fun K J0=>?_
 have hiA:=hiH
 have hiB:=hiL
 have hk10:G=none\/(∃ u9,G=some (u9,l))\/(∃ u9 j9,G=some (u9,j9)/\¬j9=l):=by
   rcases hG0:G with _|⟨u9,j9⟩
   · exact .inl rfl
   by_cases h3:j9=l
   · exact .inr (.inl ⟨u9,by rw [h3]⟩)
   exact .inr (.inr ⟨u9,j9,rfl,h3⟩)
 rcases hk10 with hG0|⟨u9,hG0⟩|⟨u9,j9,hG0,h3⟩
 ·have hb0:¬Xy8 l none=true:=fun q=>(nomatch q)
  have hz8:htC (Jf4 r9 (mvS s f) none)=[.int .i64 0,.int .i64 0,.int .i64 0,.int .i64 0,.int .i64 0,.int .i64 0,.int .i64 0,.int .i64 0]:=rfl
  obtain ⟨jh,hjA⟩:∃ j,j=(s.xp hi).toNat:=⟨_,rfl⟩
  have hxjA:s.xp hi=(jh:Int):=by have:=hG.xp hi hiA;omega
  have hjnA:jh<s.np:=by have:=hG.xp hi hiA;omega
  have d1A:(0:Int)<=(jh:Int):=by omega
  have d2A:(jh:Int)<(s.np:Int):=by omega
  have d3A:jh*5+5<=s.np*5:=by omega
  have d4A:=Jb7 (w:=5) (F:=pC s) (fun _=>rfl) hjnA
  have d5A:=Kd0 s jh
  have d6A:List.take 3 (List.drop (jh*5+1) (Jb2 s.np (pC s)))=[.int .i64 (s.pc jh 0),.int .i64 (s.pc jh 1),.int .i64 (s.pc jh 2)]:=by
    have e:(Jb2 s.np (pC s)).drop (jh*5+1)=((Jb2 s.np (pC s)).drop (jh*5)).drop 1:=by rw [List.drop_drop]
    have q:=congrArg (fun l=>List.take 3 (List.drop 1 l)) (d4A.trans d5A)
    rw [List.drop_take,List.take_take] at q
    rw [e];exact q
  have d7A:jh*5+1+3<=s.np*5:=by omega
  have x1A:(0:Int)<=(hi:Int):=by omega
  have x2A:(hi:Int)<(s.nx:Int):=by omega
  have x3A:hi*13+13<=s.nx*13:=by omega
  have x4A:(Jb2 s.nx (xC s))[hi*13+1]?=some (.int .i64 (s.xp hi)):=Jg9 (w:=13) (F:=xC s) (fun _=>rfl) hiA (a:=1) (by omega)
  obtain ⟨jl,hjB⟩:∃ j,j=(s.xp l).toNat:=⟨_,rfl⟩
  have hxjB:s.xp l=(jl:Int):=by have:=hG.xp l hiB;omega
  have hjnB:jl<s.np:=by have:=hG.xp l hiB;omega
  have d1B:(0:Int)<=(jl:Int):=by omega
  have d2B:(jl:Int)<(s.np:Int):=by omega
  have d3B:jl*5+5<=s.np*5:=by omega
  have d4B:=Jb7 (w:=5) (F:=pC s) (fun _=>rfl) hjnB
  have d5B:=Kd0 s jl
  have d6B:List.take 3 (List.drop (jl*5+1) (Jb2 s.np (pC s)))=[.int .i64 (s.pc jl 0),.int .i64 (s.pc jl 1),.int .i64 (s.pc jl 2)]:=by
    have e:(Jb2 s.np (pC s)).drop (jl*5+1)=((Jb2 s.np (pC s)).drop (jl*5)).drop 1:=by rw [List.drop_drop]
    have q:=congrArg (fun l=>List.take 3 (List.drop 1 l)) (d4B.trans d5B)
    rw [List.drop_take,List.take_take] at q
    rw [e];exact q
  have d7B:jl*5+1+3<=s.np*5:=by omega
  have x1B:(0:Int)<=(l:Int):=by omega
  have x2B:(l:Int)<(s.nx:Int):=by omega
  have x3B:l*13+13<=s.nx*13:=by omega
  have x4B:(Jb2 s.nx (xC s))[l*13+1]?=some (.int .i64 (s.xp l)):=Jg9 (w:=13) (F:=xC s) (fun _=>rfl) hiB (a:=1) (by omega)
  have hv:Jm4 (Jd1 s f) k d h hi t9=Jd8 (Jd9 (s.pc jh) (s.pc jl)) (Jd3 rc (ofI (lm.length:Int))):=by
    unfold Jm4
    rw [hwl,if_neg h0,hli,if_neg h1,if_neg (by rw [<-hQ9,<-hrc];exact h2),if_neg (by rw [<-hG9,hG0];exact hb0),<-hQ9,<-hrc]
    show Jd8 (Jd9 (s.pc (s.xp hi).toNat) (s.pc (s.xp l).toNat)) _=_
    rw [<-hjA,<-hjB]
  rw [hv] at hQ
  refine AW.rg ?_
  have U3:=ca4 U2 e1 e2 (ca4 hz8 hxjA d1A (ca4 d2A d3A d4A (ca4 d5A d6A d7A (ca4 x1A x2A x3A (ca4 x4A hjnA hiA (ca4 hxjB d1B d2B (ca4 d3B d4B d5B (ca4 d6B d7B x1B (ca4 x2B x3B x4B (ca2 hjnB hiB))))))))))
  simp only [push_cast,simprocAttr,scC,hdC,tlC,c3C,htC,kyC,Jn1,U3]
  refine CThen.by ((by have h9:=fun M hb=>Kk6 r9 (mvS s f) lr lv s.nx 1024 FA M hb (by have:=hG.nx;omega);rw [hGf,hG0,hr8] at h9;exact h9 _ ⟨_,_,Ja4 hs _⟩)) ?_
  simp only [push_cast,simprocAttr,scC,hdC,tlC,c3C,htC,kyC,Jn1,U3]
  apply J0
  refine AW.q fun K J0=>?_
  refine AW.sr 1 fun K J1=>?_
  simp only [push_cast,simprocAttr,scC,hdC,tlC,c3C,htC,kyC,Jn1,U3]
  refine AW.w 4 Tru Tru ?_
  refine AW.q fun K J0=>?_
  refine AW.draw [.val,.rd 0,.val,.rd 0,.val,.rd 0,.val,.val,.rd 0,.val,.val,.rd 0,.val,.rd 0,.val,.rd 0,.val,.val,.val,.rd 0,.val,.val,.rd 0,.ext,.fl,.wr] fol (by decide) (by kernel_rfl) ?_
  simp only [push_cast,simprocAttr,scC,hdC,tlC,c3C,htC,kyC,Jn1,U3]
  refine DCall.z (Ka3 (s.pc jh) (s.pc jl) _) ?_
  simp only [push_cast,simprocAttr,scC,hdC,tlC,c3C,htC,kyC,Jn1,U3]
  apply J0
  refine AW.q fun K J0=>?_
  refine AW.draw [.rd 0,.val,.val,.val,.ext,.ext,.ext,.wr] fol (by decide) (by kernel_rfl) ?_
  simp only [push_cast,simprocAttr,scC,hdC,tlC,c3C,htC,kyC,Jn1,U3]
  refine DCall.z (Kv0 _ _) ?_
  simp only [push_cast,simprocAttr,scC,hdC,tlC,c3C,htC,kyC,Jn1,U3]
  refine DCall.z (Ji2 _ _ _) ?_
  simp only [push_cast,simprocAttr,scC,hdC,tlC,c3C,htC,kyC,Jn1,U3]
  refine DCall.z (Qa2 (Jd9 (s.pc jh) (s.pc jl)) (Jd3 rc (ofI (lm.length:Int))) _) ?_
  simp only [push_cast,simprocAttr,scC,hdC,tlC,c3C,htC,kyC,Jn1,U3]
  refine AW.w 2 Tru Tru ?_
  refine hQ _ _ _ ?_
  first|refine RetP.drop0 (by first|exact Or.inr rfl|exact Or.inl rfl) ?_ ?_ hwf|refine RetP.drop (by first|exact Or.inr rfl|exact Or.inl rfl) ?_ ?_ hwf
  · (simp only [Je0,Jb1,Jb9,AV.tv,push_cast,simprocAttr])<;>rfl
  rfl
 ·have hz9:(Jf4 r9 (mvS s f) (some (u9,l))).i=(l:Int):=rfl
  have e3:((l:Int) !=(l:Int))=false:=by simp
  have hb0:¬Xy8 l (some (u9,l))=true:=by show ¬(!(l ==l))=true;simp
  obtain ⟨jh,hjA⟩:∃ j,j=(s.xp hi).toNat:=⟨_,rfl⟩
  have hxjA:s.xp hi=(jh:Int):=by have:=hG.xp hi hiA;omega
  have hjnA:jh<s.np:=by have:=hG.xp hi hiA;omega
  have d1A:(0:Int)<=(jh:Int):=by omega
  have d2A:(jh:Int)<(s.np:Int):=by omega
  have d3A:jh*5+5<=s.np*5:=by omega
  have d4A:=Jb7 (w:=5) (F:=pC s) (fun _=>rfl) hjnA
  have d5A:=Kd0 s jh
  have d6A:List.take 3 (List.drop (jh*5+1) (Jb2 s.np (pC s)))=[.int .i64 (s.pc jh 0),.int .i64 (s.pc jh 1),.int .i64 (s.pc jh 2)]:=by
    have e:(Jb2 s.np (pC s)).drop (jh*5+1)=((Jb2 s.np (pC s)).drop (jh*5)).drop 1:=by rw [List.drop_drop]
    have q:=congrArg (fun l=>List.take 3 (List.drop 1 l)) (d4A.trans d5A)
    rw [List.drop_take,List.take_take] at q
    rw [e];exact q
  have d7A:jh*5+1+3<=s.np*5:=by omega
  have x1A:(0:Int)<=(hi:Int):=by omega
  have x2A:(hi:Int)<(s.nx:Int):=by omega
  have x3A:hi*13+13<=s.nx*13:=by omega
  have x4A:(Jb2 s.nx (xC s))[hi*13+1]?=some (.int .i64 (s.xp hi)):=Jg9 (w:=13) (F:=xC s) (fun _=>rfl) hiA (a:=1) (by omega)
  obtain ⟨jl,hjB⟩:∃ j,j=(s.xp l).toNat:=⟨_,rfl⟩
  have hxjB:s.xp l=(jl:Int):=by have:=hG.xp l hiB;omega
  have hjnB:jl<s.np:=by have:=hG.xp l hiB;omega
  have d1B:(0:Int)<=(jl:Int):=by omega
  have d2B:(jl:Int)<(s.np:Int):=by omega
  have d3B:jl*5+5<=s.np*5:=by omega
  have d4B:=Jb7 (w:=5) (F:=pC s) (fun _=>rfl) hjnB
  have d5B:=Kd0 s jl
  have d6B:List.take 3 (List.drop (jl*5+1) (Jb2 s.np (pC s)))=[.int .i64 (s.pc jl 0),.int .i64 (s.pc jl 1),.int .i64 (s.pc jl 2)]:=by
    have e:(Jb2 s.np (pC s)).drop (jl*5+1)=((Jb2 s.np (pC s)).drop (jl*5)).drop 1:=by rw [List.drop_drop]
    have q:=congrArg (fun l=>List.take 3 (List.drop 1 l)) (d4B.trans d5B)
    rw [List.drop_take,List.take_take] at q
    rw [e];exact q
  have d7B:jl*5+1+3<=s.np*5:=by omega
  have x1B:(0:Int)<=(l:Int):=by omega
  have x2B:(l:Int)<(s.nx:Int):=by omega
  have x3B:l*13+13<=s.nx*13:=by omega
  have x4B:(Jb2 s.nx (xC s))[l*13+1]?=some (.int .i64 (s.xp l)):=Jg9 (w:=13) (F:=xC s) (fun _=>rfl) hiB (a:=1) (by omega)
  have hv:Jm4 (Jd1 s f) k d h hi t9=Jd8 (Jd9 (s.pc jh) (s.pc jl)) (Jd3 rc (ofI (lm.length:Int))):=by
    unfold Jm4
    rw [hwl,if_neg h0,hli,if_neg h1,if_neg (by rw [<-hQ9,<-hrc];exact h2),if_neg (by rw [<-hG9,hG0];exact hb0),<-hQ9,<-hrc]
    show Jd8 (Jd9 (s.pc (s.xp hi).toNat) (s.pc (s.xp l).toNat)) _=_
    rw [<-hjA,<-hjB]
  rw [hv] at hQ
  refine AW.rg ?_
  have U4:=ca4 U2 e1 e2 (ca4 hz9 e3 hxjA (ca4 d1A d2A d3A (ca4 d4A d5A d6A (ca4 d7A x1A x2A (ca4 x3A x4A hjnA (ca4 hiA hxjB d1B (ca4 d2B d3B d4B (ca4 d5B d6B d7B (ca4 x1B x2B x3B (ca3 x4B hjnB hiB))))))))))
  simp only [push_cast,simprocAttr,scC,hdC,tlC,c3C,htC,kyC,Jn1,U4]
  refine CThen.by ((by have h9:=fun M hb=>Kk6 r9 (mvS s f) lr lv s.nx 1024 FA M hb (by have:=hG.nx;omega);rw [hGf,hG0,hr8] at h9;exact h9 _ ⟨_,_,Ja4 hs _⟩)) ?_
  simp only [push_cast,simprocAttr,scC,hdC,tlC,c3C,htC,kyC,Jn1,U4]
  apply J0
  refine AW.q fun K J0=>?_
  refine AW.sr 1 fun K J1=>?_
  simp only [push_cast,simprocAttr,scC,hdC,tlC,c3C,htC,kyC,Jn1,U4]
  refine AW.w 4 Tru Tru ?_
  refine AW.q fun K J0=>?_
  refine AW.draw [.val,.rd 0,.val,.rd 0,.val,.rd 0,.val,.val,.rd 0,.val,.val,.rd 0,.val,.rd 0,.val,.rd 0,.val,.val,.val,.rd 0,.val,.val,.rd 0,.ext,.fl,.wr] fol (by decide) (by kernel_rfl) ?_
  simp only [push_cast,simprocAttr,scC,hdC,tlC,c3C,htC,kyC,Jn1,U4]
  refine DCall.z (Ka3 (s.pc jh) (s.pc jl) _) ?_
  simp only [push_cast,simprocAttr,scC,hdC,tlC,c3C,htC,kyC,Jn1,U4]
  apply J0
  refine AW.q fun K J0=>?_
  refine AW.draw [.rd 0,.val,.val,.val,.ext,.ext,.ext,.wr] fol (by decide) (by kernel_rfl) ?_
  simp only [push_cast,simprocAttr,scC,hdC,tlC,c3C,htC,kyC,Jn1,U4]
  refine DCall.z (Kv0 _ _) ?_
  simp only [push_cast,simprocAttr,scC,hdC,tlC,c3C,htC,kyC,Jn1,U4]
  refine DCall.z (Ji2 _ _ _) ?_
  simp only [push_cast,simprocAttr,scC,hdC,tlC,c3C,htC,kyC,Jn1,U4]
  refine DCall.z (Qa2 (Jd9 (s.pc jh) (s.pc jl)) (Jd3 rc (ofI (lm.length:Int))) _) ?_
  simp only [push_cast,simprocAttr,scC,hdC,tlC,c3C,htC,kyC,Jn1,U4]
  refine AW.w 2 Tru Tru ?_
  refine hQ _ _ _ ?_
  first|refine RetP.drop0 (by first|exact Or.inr rfl|exact Or.inl rfl) ?_ ?_ hwf|refine RetP.drop (by first|exact Or.inr rfl|exact Or.inl rfl) ?_ ?_ hwf
  · (simp only [Je0,Jb1,Jb9,AV.tv,push_cast,simprocAttr])<;>rfl
  rfl
 have hz9:(Jf4 r9 (mvS s f) (some (u9,j9))).i=(j9:Int):=rfl
 have e3:((j9:Int) !=(l:Int))=true:=by simp;omega
 have hv:Jm4 (Jd1 s f) k d h hi t9=z0V:=by unfold Jm4;rw [hwl,if_neg h0,hli,if_neg h1,if_neg (by rw [<-hQ9,<-hrc];exact h2),if_pos (by rw [<-hG9,hG0];show (!(j9 ==l))=true;simpa using h3)]
 rw [hv] at hQ
 refine AW.rg ?_
 have U5:=ca4 U2 e1 e2 (ca2 hz9 e3)
 simp only [push_cast,simprocAttr,scC,hdC,tlC,c3C,htC,kyC,Jn1,z0V,U5]
 refine CThen.by ((by have h9:=fun M hb=>Kk6 r9 (mvS s f) lr lv s.nx 1024 FA M hb (by have:=hG.nx;omega);rw [hGf,hG0,hr8] at h9;exact h9 _ ⟨_,_,Ja4 hs _⟩)) ?_
 simp only [push_cast,simprocAttr,scC,hdC,tlC,c3C,htC,kyC,Jn1,z0V,U5]
 apply J0
 refine AW.q fun K J0=>?_
 refine AW.sr 1 fun K J1=>?_
 simp only [push_cast,simprocAttr,scC,hdC,tlC,c3C,htC,kyC,Jn1,z0V,U5]
 refine AW.w 2 Tru Tru ?_
 refine AW.sr 1 fun K J1=>?_
 simp only [push_cast,simprocAttr,scC,hdC,tlC,c3C,htC,kyC,Jn1,z0V,U5]
 refine AW.w 2 Tru Tru ?_
 refine hQ _ _ _ ?_
 first|refine RetP.drop0 (by first|exact Or.inr rfl|exact Or.inl rfl) ?_ ?_ hwf|refine RetP.drop (by first|exact Or.inr rfl|exact Or.inl rfl) ?_ ?_ hwf
 · (simp only [Je0,Jb1,Jb9,AV.tv,push_cast,simprocAttr])<;>rfl
 rfl
structure QT where
 (b:Nat) (s:TS)
noncomputable def Jm0 (s:SC)(f:Int)(a b:VW)(x y sm:Int):SN:=Jr5 (Jd1 s f) (Xa0 s f x y sm) s.dp.toNat 0 ⟨Qe6 ((Xa0 s f x y sm).u 2),fun _=>65536,true,Vp5 (Xr9 a b ((Xa0 s f x y sm).u 2)) x y ((Xa0 s f x y sm).u 0) ((Xa0 s f x y sm).u 1) ((Xa0 s f x y sm).u 2)⟩
theorem Ka8 (k:KY)(i:Int)(m:Ja1):Ctr Tryz.prog 47 [.agg (kyC k),.one (.int .i64 i)] m (.one (.int .i64 (k.u i))) m:=Vh1 k.sd k.fr k.px k.sm i m
theorem Jv6 (k:KY)(i:Int)(m:Ja1):Ctr Tryz.prog 57 [.agg (kyC k),.one (.int .i64 i)] m (.one (.int .i64 (k.u i))) m:=Qf6 k.sd k.fr k.px k.sm i m
theorem Qx1 (s:SC)(R:RWs)(f:Int)(E:SE)(a b:VW)(p:Nat)(x y sm:Int)(m:Ja1)(hS:SetAt m p s R f E a b)(hx0:0<=x)(hx1:x<s.w)(hy0:0<=y)(hy1:y<s.h):Ctr Tryz.prog 13 [.one (.ptr p 0 0),.one (.int .i64 x),.one (.int .i64 y),.one (.int .i64 sm)] m (.agg (snC (Jm0 s f a b x y sm))) m:=by
 refine Ctr.en Tryz.func13 [.cell 8 61] 232 fun hwf Q hQ=>?_
 have hps:=hS.hp
 have lps:=Ja7 hps
 have hG:=hS.g
 have hFi:=hS.hF
 have hgw:=hG.w
 have hgh:=hG.h
 have hgd:=hG.dp
 have h1:¬x<0:=by omega
 have h2:¬s.w<=x:=by omega
 have h3:¬y<0:=by omega
 have h4:¬s.h<=y:=by omega
 have hm1:0<=y*s.w:=Int.mul_nonneg (by omega) (by omega)
 have hm2:y*s.w<=64*64:=Int.mul_le_mul (by omega) (by omega) (by omega) (by omega)
 obtain ⟨yw,hyw⟩:∃ z,y*s.w=z:=⟨_,rfl⟩
 rw [hyw] at hm1 hm2
 have w1:IntKind.i64.wrap yw=yw:=wi (by omega)
 have w2:IntKind.i64.wrap (yw+x)=yw+x:=wi (by omega)
 obtain ⟨R9,hR0⟩:∃ R,Jm0 s f a b x y sm=R:=⟨_,rfl⟩
 rw [hR0] at hQ
 unfold Jm0 at hR0
 obtain ⟨k,hk⟩:∃ k,Xa0 s f x y sm=k:=⟨_,rfl⟩
 rw [hk] at hR0
 have hkc:kyC k=[.int .u64 s.sd,.int .i64 f,.int .i64 (yw+x),.int .i64 sm]:=by rw [<-hk,<-hyw];rfl
 obtain ⟨pt,hpt⟩:∃ z,k.u 2=z:=⟨_,rfl⟩
 obtain ⟨u0,hu0⟩:∃ z,k.u 0=z:=⟨_,rfl⟩
 obtain ⟨u1,hu1⟩:∃ z,k.u 1=z:=⟨_,rfl⟩
 rw [hpt,hu0,hu1] at hR0
 obtain ⟨r0,hr0⟩:∃ r,Vp5 (Xr9 a b pt) x y u0 u1 pt=r:=⟨_,rfl⟩
 rw [hr0] at hR0
 have hry:=Vy5 r0
 have hdn:((s.dp.toNat:Nat):Int)=s.dp:=Int.toNat_of_nonneg (by omega)
 have U1:=ca4 hps (Ja4 hps) @Qq6 (ca4 @Jg0 @Jf6 @Jf9 (ca4 @Ja5 @Jn5 h1 (ca4 h2 h3 h4 (ca3 hyw w1 w2))))
 refine AW.wd [[.val,.val,.val,.val,.val,.rd 0,.val,.val,.val,.rd 0,.val,.val,.val,.val,.val,.val,.rd 0,.val,.val,.val,.val,.val,.ext,.wr]] 7 U1 Tru ?_
 have q_1:=Ka8 k (2)
 rw [hkc,hpt] at q_1
 refine AW.c 1 U1 q_1 ?_
 have q_2:=Ka8 k (0)
 rw [hkc,hu0] at q_2
 have q_3:=Ka8 k (1)
 rw [hkc,hu1] at q_3
 have q_4:=Xs4 (Xr9 a b pt) x y u0 u1 pt
 rw [hr0,hry] at q_4
 refine AW.wd [[.val,.val,.val,.rd 0,.val,.val,.val,.rd 0,.val,.rd 0,.ext,.val,.val,.rd 0,.ext,.rd 0,.ext,.val,.rd 0,.ext,.fl,.wr]] 5 U1 (ca4 (Xx9 a b pt) q_2 q_3 (ca2 q_4 (Vf4 65536))) fun K J0=>?_
 refine AW.loopK [0,8,9,10,11,12,103] (fun (q:QT)=>q.b<=s.dp.toNat/\Jr5 (Jd1 s f) k (s.dp.toNat - q.b) q.b q.s=R9) (fun (q:QT)=>[(13,.one (.bool q.s.sharp)),(104,.one (.int .i64 ((q.b:Int))))]) (fun (q:QT)=>[(m.length+2,⟨.fix,61,0,0,[.int .i64 (q.s.s.li 0),.int .i64 (q.s.s.li 1),.int .i64 (q.s.s.li 2),.int .i64 (q.s.s.dep),.int .i64 (q.s.s.no 0),.int .i64 (q.s.s.no 1),.int .i64 (q.s.s.no 2),.int .i64 (q.s.s.po 0),.int .i64 (q.s.s.po 1),.int .i64 (q.s.s.po 2),.int .i64 (q.s.s.ba 0),.int .i64 (q.s.s.ba 1),.int .i64 (q.s.s.ba 2),.int .i64 (q.s.s.sh),.int .i64 (q.s.s.pt)]⟩),(m.length+3,⟨.fix,161,0,0,[.int .i64 (q.s.r.o 0),.int .i64 (q.s.r.o 1),.int .i64 (q.s.r.o 2),.int .i64 (q.s.r.d 0),.int .i64 (q.s.r.d 1),.int .i64 (q.s.r.d 2),.int .i64 (q.s.r.part)]⟩),(m.length+4,⟨.fix,42,0,0,[.int .i64 (q.s.w 0),.int .i64 (q.s.w 1),.int .i64 (q.s.w 2)]⟩)]) (fun (q:QT)=>s.dp.toNat - q.b) ⟨0,⟨Qe6 pt,fun _=>65536,true,r0⟩⟩ ⟨Nat.zero_le _,hR0⟩ ?_ ?_ fun (q:QT) hi3=>?_
 · first|rfl|(simp only [KS,simprocAttr,Qe6,Int.natCast_zero]<;>repeat' (first|rfl|apply And.intro))
 · (simp only [Ja2,push_cast,simprocAttr,Qe6])<;>rfl
 obtain ⟨bb,⟨sn,wt,shp,rr⟩⟩:=q
 have hq:=hi3
 dsimp only at hq ⊢
 obtain ⟨hbd,hR9⟩:=hq
 try simp only [Ja9,Ja2,push_cast,simprocAttr,U1]
 refine AW.w 2 U1 Tru fun K J1=>?_
 refine AW.cond rfl (fun h105=>?_) (fun h105=>?_)
 ·have hbn:bb<s.dp.toNat:=by have:=of_decide_eq_true h105;omega
  obtain ⟨d,hd9⟩:∃ d:Int,d=3+8*(bb:Int):=⟨_,rfl⟩
  have hdp9:=hG.dp
  have wd8:IntKind.i64.wrap (8*(bb:Int))=8*(bb:Int):=wi (by omega)
  have wd9:IntKind.i64.wrap (3+8*(bb:Int))=d:=by rw [hd9];exact wi (by omega)
  have wd3:IntKind.i64.wrap (d+3)=d+3:=wi (by omega)
  have wd4:IntKind.i64.wrap (d+4)=d+4:=wi (by omega)
  have wd5:IntKind.i64.wrap (d+5)=d+5:=wi (by omega)
  have hdr:0<=d/\d<=1000:=by omega
  have hwi:IntKind.i64.wrap ((bb:Int)+1)=(bb:Int)+1:=wi (by omega)
  refine AW.w 4 Tru Tru fun K J1=>?_
  have U2:=ca4 U1 wd8 wd9 (ca4 wd3 wd4 wd5 hwi)
  refine AW.c 2 U2 Tru ?_
  refine AW.q fun K J2=>?_
  rcases hF0:Js2 (Jd1 s f) rr 1024 2147483648 with _|⟨t9,i9⟩
  ·have hz8:htC (Jf4 rr (mvS s f) none)=[.int .i64 0,.int .i64 0,.int .i64 0,.int .i64 0,.int .i64 0,.int .i64 0,.int .i64 0,.int .i64 0]:=rfl
   have hR8:R9=sn.add (Jd9 wt s.sk):=by rw [<-hR9];exact Jj7 hbn (by rw [<-hd9];exact Ky7 hF0)
   have hv:snC R9=[.int .i64 (Jd7 sn.li (Jd9 wt s.sk) 0),.int .i64 (Jd7 sn.li (Jd9 wt s.sk) 1),.int .i64 (Jd7 sn.li (Jd9 wt s.sk) 2),.int .i64 (sn.dep),.int .i64 (sn.no 0),.int .i64 (sn.no 1),.int .i64 (sn.no 2),.int .i64 (sn.po 0),.int .i64 (sn.po 1),.int .i64 (sn.po 2),.int .i64 (sn.ba 0),.int .i64 (sn.ba 1),.int .i64 (sn.ba 2),.int .i64 (sn.sh),.int .i64 (sn.pt)]:=by rw [hR8];rfl
   rw [hv] at hQ
   have q_5:=fun L=>hFi L rr 1024 2147483648
   rw [hF0] at q_5
   have U3:=ca2 U2 hz8
   exact AW.fd [[.val,.val,.val,.rd 0,.rd 0,.ext,.val,.val,.val,.val,.fl,.wr,.val,.val],[.val,.rd 0,.rd 0,.val,.val,.val,.val,.val,.rd 0,.ext,.ext,.val,.wr]] U3 (ca3 q_5 (Ko0 wt s.sk) (Qn3 sn.li (Jd9 wt s.sk)))
  obtain ⟨jj,hjj⟩:∃ j,j=(s.xp i9).toNat:=⟨_,rfl⟩
  have dP:=Kd0 s jj
  have hi9:i9<s.nx:=Ke6 hF0
  obtain ⟨h,hh⟩:∃ h,Kd6 (Jd1 s f) rr t9 i9=h:=⟨_,rfl⟩
  have hbh:Jf4 rr (mvS s f) (some (t9,i9))=h:=hh
  have hhi:h.i=(i9:Int):=by rw [<-hh];rfl
  have hht:htC h=[.int .i64 h.t,.int .i64 (i9:Int),.int .i64 (h.p 0),.int .i64 (h.p 1),.int .i64 (h.p 2),.int .i64 (h.n 0),.int .i64 (h.n 1),.int .i64 (h.n 2)]:=by unfold htC;rw [hhi];rfl
  obtain ⟨sn1,hsn1⟩:∃ x,Jv2 (Jd1 s f) bb sn h i9=x:=⟨_,rfl⟩
  obtain ⟨sn2,hsn2⟩:∃ x,liS (Jd1 s f) k d ⟨sn,wt,shp,rr⟩ sn1 h i9=x:=⟨_,rfl⟩
  obtain ⟨T,hT⟩:∃ x,Kb8 (Jd1 s f) k d ⟨sn,wt,shp,rr⟩ h i9=x:=⟨_,rfl⟩
  have hT1:Jq8 (s.pk jj) (s.pc jj) (s.pr jj) rr.d h.n (k.u (d+3)) (k.u (d+4))=T:=by rw [<-hT,hjj];rfl
  have hkd:(Jd1 s f).kd i9=s.pk jj:=by rw [hjj];rfl
  have hcl:(Jd1 s f).cl i9=s.pc jj:=by rw [hjj];rfl
  have hp1:sn1.pt=sn.pt:=by rw [<-hsn1];unfold Jv2;split<;>rfl
  have hp2:sn2.pt=sn.pt:=by rw [<-hp1,<-hsn2];unfold liS;split<;>rfl
  have q_6:=fun L=>hFi L rr 1024 2147483648
  rw [hF0,hbh] at q_6
  have U4:=ca4 U2 dP hhi @Ji7
  refine AW.wd [[.val,.val,.val,.rd 0,.rd 0,.ext,.val,.val,.val,.val,.fl,.wr,.val,.val]] 7 U4 q_6 ?_
  have q_7:=Km6 s R f E a b p i9
  rw [<-hjj] at q_7
  refine AW.w 3 U4 (q_7 _ (hS.app _) hi9) fun K J2=>?_
  refine AW.condJ rfl [0,8,9,10,11,12,13,14,15,16,19,103,104] [] [(m.length+2,⟨.fix,61,0,0,[.int .i64 (sn1.li 0),.int .i64 (sn1.li 1),.int .i64 (sn1.li 2),.int .i64 (sn1.dep),.int .i64 (sn1.no 0),.int .i64 (sn1.no 1),.int .i64 (sn1.no 2),.int .i64 (sn1.po 0),.int .i64 (sn1.po 1),.int .i64 (sn1.po 2),.int .i64 (sn1.ba 0),.int .i64 (sn1.ba 1),.int .i64 (sn1.ba 2),.int .i64 (sn1.sh),.int .i64 (sn1.pt)]⟩)] (fun h140=>?_) (fun h140=>?_) ?_
  ·have hb0:bb=0:=by have:=eq_of_beq h140;omega
   have X1:sn1=⟨sn.li,h.t,h.n,h.p,(Jd1 s f).cl i9,(i9:Int),sn.pt⟩:=by rw [<-hsn1];exact if_pos hb0
   rw [hcl] at X1
   have p1li0:sn1.li 0=sn.li 0:=by have q:=congrArg (fun z:SN=>z.li 0) X1;exact q
   have p1li1:sn1.li 1=sn.li 1:=by have q:=congrArg (fun z:SN=>z.li 1) X1;exact q
   have p1li2:sn1.li 2=sn.li 2:=by have q:=congrArg (fun z:SN=>z.li 2) X1;exact q
   have p1no0:sn1.no 0=h.n 0:=by have q:=congrArg (fun z:SN=>z.no 0) X1;exact q
   have p1no1:sn1.no 1=h.n 1:=by have q:=congrArg (fun z:SN=>z.no 1) X1;exact q
   have p1no2:sn1.no 2=h.n 2:=by have q:=congrArg (fun z:SN=>z.no 2) X1;exact q
   have p1po0:sn1.po 0=h.p 0:=by have q:=congrArg (fun z:SN=>z.po 0) X1;exact q
   have p1po1:sn1.po 1=h.p 1:=by have q:=congrArg (fun z:SN=>z.po 1) X1;exact q
   have p1po2:sn1.po 2=h.p 2:=by have q:=congrArg (fun z:SN=>z.po 2) X1;exact q
   have p1ba0:sn1.ba 0=s.pc jj 0:=by have q:=congrArg (fun z:SN=>z.ba 0) X1;exact q
   have p1ba1:sn1.ba 1=s.pc jj 1:=by have q:=congrArg (fun z:SN=>z.ba 1) X1;exact q
   have p1ba2:sn1.ba 2=s.pc jj 2:=by have q:=congrArg (fun z:SN=>z.ba 2) X1;exact q
   have p1dep:sn1.dep=h.t:=by have q:=congrArg (fun z:SN=>z.dep) X1;exact q
   have p1sh:sn1.sh=(i9:Int):=by have q:=congrArg (fun z:SN=>z.sh) X1;exact q
   have p1pt:sn1.pt=sn.pt:=by have q:=congrArg (fun z:SN=>z.pt) X1;exact q
   refine AW.wd [[.val,.rd 0,.val,.rw 0,.val,.rw 0,.val,.rw 0,.val,.rw 0,.val,.wr,.val,.wr,.val,.wr,.val,.wr,.val,.wr]] 1 U4 Tru ?_
   try simp only [Ja9,Ja2,push_cast,simprocAttr,U4,p1li0,p1li1,p1li2,p1no0,p1no1,p1no2,p1po0,p1po1,p1po2,p1ba0,p1ba1,p1ba2,p1dep,p1sh,p1pt]
   exact Weak.same (by simp only [KS,simprocAttr,p1li0,p1li1,p1li2,p1no0,p1no1,p1no2,p1po0,p1po1,p1po2,p1ba0,p1ba1,p1ba2,p1dep,p1sh,p1pt]) (by first|rfl|simp only [KS,simprocAttr,p1li0,p1li1,p1li2,p1no0,p1no1,p1no2,p1po0,p1po1,p1po2,p1ba0,p1ba1,p1ba2,p1dep,p1sh,p1pt])
  ·have hb0:¬bb=0:=fun q=>by rw [q] at h140;cases h140
   have X1:sn1=sn:=by rw [<-hsn1];exact if_neg hb0
   have p1li0:sn1.li 0=sn.li 0:=by have q:=congrArg (fun z:SN=>z.li 0) X1;exact q
   have p1li1:sn1.li 1=sn.li 1:=by have q:=congrArg (fun z:SN=>z.li 1) X1;exact q
   have p1li2:sn1.li 2=sn.li 2:=by have q:=congrArg (fun z:SN=>z.li 2) X1;exact q
   have p1no0:sn1.no 0=sn.no 0:=by have q:=congrArg (fun z:SN=>z.no 0) X1;exact q
   have p1no1:sn1.no 1=sn.no 1:=by have q:=congrArg (fun z:SN=>z.no 1) X1;exact q
   have p1no2:sn1.no 2=sn.no 2:=by have q:=congrArg (fun z:SN=>z.no 2) X1;exact q
   have p1po0:sn1.po 0=sn.po 0:=by have q:=congrArg (fun z:SN=>z.po 0) X1;exact q
   have p1po1:sn1.po 1=sn.po 1:=by have q:=congrArg (fun z:SN=>z.po 1) X1;exact q
   have p1po2:sn1.po 2=sn.po 2:=by have q:=congrArg (fun z:SN=>z.po 2) X1;exact q
   have p1ba0:sn1.ba 0=sn.ba 0:=by have q:=congrArg (fun z:SN=>z.ba 0) X1;exact q
   have p1ba1:sn1.ba 1=sn.ba 1:=by have q:=congrArg (fun z:SN=>z.ba 1) X1;exact q
   have p1ba2:sn1.ba 2=sn.ba 2:=by have q:=congrArg (fun z:SN=>z.ba 2) X1;exact q
   have p1dep:sn1.dep=sn.dep:=by have q:=congrArg (fun z:SN=>z.dep) X1;exact q
   have p1sh:sn1.sh=sn.sh:=by have q:=congrArg (fun z:SN=>z.sh) X1;exact q
   have p1pt:sn1.pt=sn.pt:=by have q:=congrArg (fun z:SN=>z.pt) X1;exact q
   refine AW.w 1 Tru Tru ?_
   try simp only [Ja9,Ja2,push_cast,simprocAttr,U4,p1li0,p1li1,p1li2,p1no0,p1no1,p1no2,p1po0,p1po1,p1po2,p1ba0,p1ba1,p1ba2,p1dep,p1sh,p1pt]
   exact Weak.same (by simp only [KS,simprocAttr,p1li0,p1li1,p1li2,p1no0,p1no1,p1no2,p1po0,p1po1,p1po2,p1ba0,p1ba1,p1ba2,p1dep,p1sh,p1pt]) (by first|rfl|simp only [KS,simprocAttr,p1li0,p1li1,p1li2,p1no0,p1no1,p1no2,p1po0,p1po1,p1po2,p1ba0,p1ba1,p1ba2,p1dep,p1sh,p1pt])
  try simp only [Ja9,Ja2,push_cast,simprocAttr,U4]
  refine AW.w 4 U4 Tru fun K J2=>?_
  refine AW.q fun K J3=>?_
  have hk19:(s.pk jj=3/\shp=true)\/(s.pk jj=3/\shp=false)\/¬s.pk jj=3:=by cases shp<;>simp<;>omega
  rcases hk19 with ⟨h3,hsp⟩|⟨h3,hsp⟩|h3
  ·have h3w:(Jd1 s f).kd i9=3:=hkd.trans h3
   have k3:(s.pk jj ==3)=true:=beq_iff_eq.2 h3
   subst hsp
   have hR8:R9=sn1.add (Jd9 wt ((Jd1 s f).cl i9)):=by rw [<-hR9];exact Jj7 hbn (by rw [<-hd9];exact Ky8 hF0 hh hsn1 h3w rfl)
   rw [hcl] at hR8
   have hv:snC R9=[.int .i64 (Jd7 sn1.li (Jd9 wt (s.pc jj)) 0),.int .i64 (Jd7 sn1.li (Jd9 wt (s.pc jj)) 1),.int .i64 (Jd7 sn1.li (Jd9 wt (s.pc jj)) 2),.int .i64 (sn1.dep),.int .i64 (sn1.no 0),.int .i64 (sn1.no 1),.int .i64 (sn1.no 2),.int .i64 (sn1.po 0),.int .i64 (sn1.po 1),.int .i64 (sn1.po 2),.int .i64 (sn1.ba 0),.int .i64 (sn1.ba 1),.int .i64 (sn1.ba 2),.int .i64 (sn1.sh),.int .i64 (sn1.pt)]:=by rw [hR8];rfl
   rw [hv] at hQ
   have U5:=ca2 U4 k3
   exact AW.fd [[.val,.rd 0,.rd 0,.val,.rd 0,.ext,.ext,.val,.wr]] U5 (ca2 (Ko0 wt (s.pc jj)) (Qn3 sn1.li (Jd9 wt (s.pc jj))))
  ·have h3w:(Jd1 s f).kd i9=3:=hkd.trans h3
   have k3:(s.pk jj ==3)=true:=beq_iff_eq.2 h3
   subst hsp
   have hR8:R9=sn1:=by rw [<-hR9];exact Jj7 hbn (by rw [<-hd9];exact Ky9 hF0 hh hsn1 h3w rfl)
   have hv:snC R9=[.int .i64 (sn1.li 0),.int .i64 (sn1.li 1),.int .i64 (sn1.li 2),.int .i64 (sn1.dep),.int .i64 (sn1.no 0),.int .i64 (sn1.no 1),.int .i64 (sn1.no 2),.int .i64 (sn1.po 0),.int .i64 (sn1.po 1),.int .i64 (sn1.po 2),.int .i64 (sn1.ba 0),.int .i64 (sn1.ba 1),.int .i64 (sn1.ba 2),.int .i64 (sn1.sh),.int .i64 (sn1.pt)]:=by rw [hR8];rfl
   rw [hv] at hQ
   have U6:=ca2 U4 k3
   exact AW.f U6 Tru
  have h3w:¬(Jd1 s f).kd i9=3:=fun q=>h3 (hkd.symm.trans q)
  have k3:(s.pk jj ==3)=false:=by simpa using h3
  have U7:=ca2 U4 k3
  refine AW.w 4 U7 Tru ?_
  refine AW.condJ rfl [0,8,9,10,11,12,14,15,16,19,103,104] [] [(m.length+2,⟨.fix,61,0,0,[.int .i64 (sn2.li 0),.int .i64 (sn2.li 1),.int .i64 (sn2.li 2),.int .i64 (sn2.dep),.int .i64 (sn2.no 0),.int .i64 (sn2.no 1),.int .i64 (sn2.no 2),.int .i64 (sn2.po 0),.int .i64 (sn2.po 1),.int .i64 (sn2.po 2),.int .i64 (sn2.ba 0),.int .i64 (sn2.ba 1),.int .i64 (sn2.ba 2),.int .i64 (sn2.sh),.int .i64 (sn2.pt)]⟩)] (fun h170=>?_) (fun h170=>?_) ?_
  ·have hk0:s.pk jj=0:=eq_of_beq h170
   obtain ⟨lv,hlv⟩:∃ l,Jm4 (Jd1 s f) k d h i9 sn1.pt=l:=⟨_,rfl⟩
   have X2:sn2=sn1.add (Jd9 wt lv):=by rw [<-hsn2,<-hlv];exact if_pos (hkd.trans hk0)
   have p2li0:sn2.li 0=Jd7 sn1.li (Jd9 wt lv) 0:=by have q:=congrArg (fun z:SN=>z.li 0) X2;exact q
   have p2li1:sn2.li 1=Jd7 sn1.li (Jd9 wt lv) 1:=by have q:=congrArg (fun z:SN=>z.li 1) X2;exact q
   have p2li2:sn2.li 2=Jd7 sn1.li (Jd9 wt lv) 2:=by have q:=congrArg (fun z:SN=>z.li 2) X2;exact q
   have p2no0:sn2.no 0=sn1.no 0:=by have q:=congrArg (fun z:SN=>z.no 0) X2;exact q
   have p2no1:sn2.no 1=sn1.no 1:=by have q:=congrArg (fun z:SN=>z.no 1) X2;exact q
   have p2no2:sn2.no 2=sn1.no 2:=by have q:=congrArg (fun z:SN=>z.no 2) X2;exact q
   have p2po0:sn2.po 0=sn1.po 0:=by have q:=congrArg (fun z:SN=>z.po 0) X2;exact q
   have p2po1:sn2.po 1=sn1.po 1:=by have q:=congrArg (fun z:SN=>z.po 1) X2;exact q
   have p2po2:sn2.po 2=sn1.po 2:=by have q:=congrArg (fun z:SN=>z.po 2) X2;exact q
   have p2ba0:sn2.ba 0=sn1.ba 0:=by have q:=congrArg (fun z:SN=>z.ba 0) X2;exact q
   have p2ba1:sn2.ba 1=sn1.ba 1:=by have q:=congrArg (fun z:SN=>z.ba 1) X2;exact q
   have p2ba2:sn2.ba 2=sn1.ba 2:=by have q:=congrArg (fun z:SN=>z.ba 2) X2;exact q
   have p2dep:sn2.dep=sn1.dep:=by have q:=congrArg (fun z:SN=>z.dep) X2;exact q
   have p2sh:sn2.sh=sn1.sh:=by have q:=congrArg (fun z:SN=>z.sh) X2;exact q
   have p2pt:sn2.pt=sn1.pt:=by have q:=congrArg (fun z:SN=>z.pt) X2;exact q
   have q_8:=Xy6 s R f E a b p k d h i9 sn1.pt
   rw [hkc,hlv,hht] at q_8
   refine AW.wd [[.val,.rd 0,.rd 0,.val,.rd 0,.val,.rd 0,.val,.rd 0,.ext,.ext,.ext,.val,.wr]] 1 U7 (ca3 (q_8 _ (hS.app _) hdr hhi hi9) (Ko0 wt lv) (Qn3 sn1.li (Jd9 wt lv))) ?_
   try simp only [Ja9,Ja2,push_cast,simprocAttr,U7,p2li0,p2li1,p2li2,p2no0,p2no1,p2no2,p2po0,p2po1,p2po2,p2ba0,p2ba1,p2ba2,p2dep,p2sh,p2pt]
   exact Weak.same (by simp only [KS,simprocAttr,p2li0,p2li1,p2li2,p2no0,p2no1,p2no2,p2po0,p2po1,p2po2,p2ba0,p2ba1,p2ba2,p2dep,p2sh,p2pt]) (by first|rfl|simp only [KS,simprocAttr,p2li0,p2li1,p2li2,p2no0,p2no1,p2no2,p2po0,p2po1,p2po2,p2ba0,p2ba1,p2ba2,p2dep,p2sh,p2pt])
  ·have hk0:¬s.pk jj=0:=fun q=>by rw [q] at h170;cases h170
   have X2:sn2=sn1:=by rw [<-hsn2];exact if_neg (fun q=>hk0 (hkd.symm.trans q))
   have p2li0:sn2.li 0=sn1.li 0:=by have q:=congrArg (fun z:SN=>z.li 0) X2;exact q
   have p2li1:sn2.li 1=sn1.li 1:=by have q:=congrArg (fun z:SN=>z.li 1) X2;exact q
   have p2li2:sn2.li 2=sn1.li 2:=by have q:=congrArg (fun z:SN=>z.li 2) X2;exact q
   have p2no0:sn2.no 0=sn1.no 0:=by have q:=congrArg (fun z:SN=>z.no 0) X2;exact q
   have p2no1:sn2.no 1=sn1.no 1:=by have q:=congrArg (fun z:SN=>z.no 1) X2;exact q
   have p2no2:sn2.no 2=sn1.no 2:=by have q:=congrArg (fun z:SN=>z.no 2) X2;exact q
   have p2po0:sn2.po 0=sn1.po 0:=by have q:=congrArg (fun z:SN=>z.po 0) X2;exact q
   have p2po1:sn2.po 1=sn1.po 1:=by have q:=congrArg (fun z:SN=>z.po 1) X2;exact q
   have p2po2:sn2.po 2=sn1.po 2:=by have q:=congrArg (fun z:SN=>z.po 2) X2;exact q
   have p2ba0:sn2.ba 0=sn1.ba 0:=by have q:=congrArg (fun z:SN=>z.ba 0) X2;exact q
   have p2ba1:sn2.ba 1=sn1.ba 1:=by have q:=congrArg (fun z:SN=>z.ba 1) X2;exact q
   have p2ba2:sn2.ba 2=sn1.ba 2:=by have q:=congrArg (fun z:SN=>z.ba 2) X2;exact q
   have p2dep:sn2.dep=sn1.dep:=by have q:=congrArg (fun z:SN=>z.dep) X2;exact q
   have p2sh:sn2.sh=sn1.sh:=by have q:=congrArg (fun z:SN=>z.sh) X2;exact q
   have p2pt:sn2.pt=sn1.pt:=by have q:=congrArg (fun z:SN=>z.pt) X2;exact q
   refine AW.w 1 Tru Tru ?_
   try simp only [Ja9,Ja2,push_cast,simprocAttr,U7,p2li0,p2li1,p2li2,p2no0,p2no1,p2no2,p2po0,p2po1,p2po2,p2ba0,p2ba1,p2ba2,p2dep,p2sh,p2pt]
   exact Weak.same (by simp only [KS,simprocAttr,p2li0,p2li1,p2li2,p2no0,p2no1,p2no2,p2po0,p2po1,p2po2,p2ba0,p2ba1,p2ba2,p2dep,p2sh,p2pt]) (by first|rfl|simp only [KS,simprocAttr,p2li0,p2li1,p2li2,p2no0,p2no1,p2no2,p2po0,p2po1,p2po2,p2ba0,p2ba1,p2ba2,p2dep,p2sh,p2pt])
  try simp only [Ja9,Ja2,push_cast,simprocAttr,U7]
  refine AW.w 1 Tru Tru ?_
  have q_9:=Ka8 k (d+3)
  rw [hkc] at q_9
  have q_10:=Ka8 k (d+4)
  rw [hkc] at q_10
  have q_11:=bnc_c (s.pk jj) (s.pc jj) (s.pr jj) rr.d h.n (k.u (d+3)) (k.u (d+4))
  rw [hT1] at q_11
  unfold tnC c3C at q_11
  refine AW.wd [[.rd 0,.val,.rd 0,.val,.rd 0,.rd 0,.val,.val,.ext,.rd 0,.val,.val,.ext,.ext,.fl,.wr]] 2 U7 (ca3 q_9 q_10 q_11) fun K J2=>?_
  refine AW.q fun K J3=>?_
  cases hg:T.g
  ·have hR8:R9=sn2:=by rw [<-hR9];exact Jj7 hbn (by rw [<-hd9];exact Ky6 hF0 hh hsn1 hsn2 hT h3w hg)
   have hv:snC R9=[.int .i64 (sn2.li 0),.int .i64 (sn2.li 1),.int .i64 (sn2.li 2),.int .i64 (sn2.dep),.int .i64 (sn2.no 0),.int .i64 (sn2.no 1),.int .i64 (sn2.no 2),.int .i64 (sn2.po 0),.int .i64 (sn2.po 1),.int .i64 (sn2.po 2),.int .i64 (sn2.ba 0),.int .i64 (sn2.ba 1),.int .i64 (sn2.ba 2),.int .i64 (sn2.sh),.int .i64 (sn2.pt)]:=by rw [hR8];rfl
   rw [hv] at hQ
   have U8:=ca2 U7 hg
   exact AW.f U8 Tru
  skip
  have U9:=ca2 U7 hg
  refine AW.wd [[.rd 0,.val,.rd 0,.ext,.val,.rw 0,.wr,.val]] 7 U9 (Ko0 wt T.l) fun K J2=>?_
  refine AW.q fun K J3=>?_
  have hk29:bb=0\/(¬bb=0/\Kw0 (Jd9 wt T.l)<=Jb6 (k.u (d+5)))\/(¬bb=0/\¬Kw0 (Jd9 wt T.l)<=Jb6 (k.u (d+5))):=by
    by_cases q1:bb=0
    · exact .inl q1
    by_cases q2:Kw0 (Jd9 wt T.l)<=Jb6 (k.u (d+5))
    · exact .inr (.inl ⟨q1,q2⟩)
    exact .inr (.inr ⟨q1,q2⟩)
  rcases hk29 with hb0|⟨hb0,hl9⟩|⟨hb0,hl9⟩
  ·have e9:¬(0:Int)<(bb:Int):=by omega
   have hNx:bb+1<=s.dp.toNat/\Jr5 (Jd1 s f) k (s.dp.toNat - (bb+1)) (bb+1) ⟨sn2,Jd9 wt T.l,T.s,⟨h.p,T.d,sn.pt⟩⟩=R9:=⟨hbn,by rw [<-hR9];exact (Kc0 hbn (by rw [<-hd9];exact Qi7 hF0 hh hsn1 hsn2 hT h3w hg hb0)).symm⟩
   have hmu:s.dp.toNat - (bb+1)<s.dp.toNat - bb:=by omega
   have U10:=ca2 U9 e9
   refine AW.w 8 U10 Tru ?_
   refine ⟨⟨bb+1,⟨sn2,Jd9 wt T.l,T.s,⟨h.p,T.d,sn.pt⟩⟩⟩,hNx,hmu,?_⟩
   try simp only [Ja9,Ja2,push_cast,simprocAttr,U10,hwi,hp2,Int.natCast_add,Int.natCast_one]
   exact Weak.to (extra:=_) (by simp only [KS,simprocAttr,hwi,hp2,Int.natCast_add,Int.natCast_one]) (by first|rfl|(simp only [List.append_assoc,List.cons_append,List.nil_append];rfl)) (by first|rfl|(simp [AV.below,CV.below];done)|(simp [AV.below,CV.below];omega)) (by exact MWf.app (hwf.grow (by simp)) (Ja0 rfl (Ja0 rfl (Ja0 rfl (Ja0 rfl (Ja0 rfl Jb3))))))
  ·have e9:(0:Int)<(bb:Int):=by omega
   have hR8:R9=sn2:=by rw [<-hR9];exact Jj7 hbn (by rw [<-hd9];exact Kz0 hF0 hh hsn1 hsn2 hT h3w hg hb0 hl9)
   have hv:snC R9=[.int .i64 (sn2.li 0),.int .i64 (sn2.li 1),.int .i64 (sn2.li 2),.int .i64 (sn2.dep),.int .i64 (sn2.no 0),.int .i64 (sn2.no 1),.int .i64 (sn2.no 2),.int .i64 (sn2.po 0),.int .i64 (sn2.po 1),.int .i64 (sn2.po 2),.int .i64 (sn2.ba 0),.int .i64 (sn2.ba 1),.int .i64 (sn2.ba 2),.int .i64 (sn2.sh),.int .i64 (sn2.pt)]:=by rw [hR8];rfl
   rw [hv] at hQ
   have U11:=ca2 U9 e9
   refine AW.w 3 U11 Tru ?_
   have q_12:=Ka8 k (d+5)
   rw [hkc] at q_12
   exact AW.fd [[.rd 0,.rd 0,.val,.val,.ext,.ext,.val,.val,.val,.wr,.val]] U11 (ca2 q_12 (Xm3 (Jd9 wt T.l) (k.u (d+5)) _ hl9))
  have e9:(0:Int)<(bb:Int):=by omega
  have hNx:bb+1<=s.dp.toNat/\Jr5 (Jd1 s f) k (s.dp.toNat - (bb+1)) (bb+1) ⟨sn2,Jn4 (Jd9 wt T.l) (k.u (d+5)),T.s,⟨h.p,T.d,sn.pt⟩⟩=R9:=⟨hbn,by rw [<-hR9];exact (Kc0 hbn (by rw [<-hd9];exact Qx9 hF0 hh hsn1 hsn2 hT h3w hg hb0 hl9)).symm⟩
  have hmu:s.dp.toNat - (bb+1)<s.dp.toNat - bb:=by omega
  have U12:=ca2 U9 e9
  refine AW.w 3 U12 Tru ?_
  have q_13:=Ka8 k (d+5)
  rw [hkc] at q_13
  refine AW.wd [[.rd 0,.rd 0,.val,.val,.ext,.ext,.val,.val,.val,.wr,.val]] 8 U12 (ca2 q_13 (Xm4 (Jd9 wt T.l) (k.u (d+5)) _ hl9)) ?_
  refine ⟨⟨bb+1,⟨sn2,Jn4 (Jd9 wt T.l) (k.u (d+5)),T.s,⟨h.p,T.d,sn.pt⟩⟩⟩,hNx,hmu,?_⟩
  try simp only [Ja9,Ja2,push_cast,simprocAttr,U12,hwi,hp2,Int.natCast_add,Int.natCast_one]
  exact Weak.to (extra:=_) (by simp only [KS,simprocAttr,hwi,hp2,Int.natCast_add,Int.natCast_one]) (by first|rfl|(simp only [List.append_assoc,List.cons_append,List.nil_append];rfl)) (by first|rfl|(simp [AV.below,CV.below];done)|(simp [AV.below,CV.below];omega)) (by exact MWf.app (hwf.grow (by simp)) (Ja0 rfl (Ja0 rfl (Ja0 rfl (Ja0 rfl (Ja0 rfl Jb3))))))
 have hbn:¬bb<s.dp.toNat:=by have:=of_decide_eq_false h105;omega
 have hbe:bb=s.dp.toNat:=by omega
 have hR8:R9=sn:=by rw [<-hR9];exact Ky4 (by omega)
 have hv:snC R9=[.int .i64 (sn.li 0),.int .i64 (sn.li 1),.int .i64 (sn.li 2),.int .i64 (sn.dep),.int .i64 (sn.no 0),.int .i64 (sn.no 1),.int .i64 (sn.no 2),.int .i64 (sn.po 0),.int .i64 (sn.po 1),.int .i64 (sn.po 2),.int .i64 (sn.ba 0),.int .i64 (sn.ba 1),.int .i64 (sn.ba 2),.int .i64 (sn.sh),.int .i64 (sn.pt)]:=by rw [hR8];rfl
 rw [hv] at hQ
 exact AW.f U1 Tru
theorem Qj6 (s:SC)(R:RWs)(f x y sm:Int)(m:Ja1)(hR:ScR 138 143 285 146 150 m s R)(hG:GoS s)(hT:∀ i,i<s.nt->TrS s i)(hJ:∀ i,i<s.nj->JoR s i)(hX:∀ i,i<s.nx->-1<=s.xj i/\s.xj i<(s.nj:Int))(hE:s.ey<(s.nt:Int))(hL:s.lk<(s.nt:Int))(hf:0<=f/\f<=1000000)(hx0:0<=x)(hx1:x<s.w)(hy0:0<=y)(hy1:y<s.h):Ctr Tryz.prog 14 [.agg (scC s R),.one (.int .i64 f),.one (.int .i64 x),.one (.int .i64 y),.one (.int .i64 sm)] m (.agg (snC (Jm0 s f (Jg7 s (f*65536)) (Jg7 s (f*65536+s.sh)) x y sm))) m:=by
 refine Ctr.en Tryz.func14 [.cell 10 56] 203 fun hwf Q hQ=>?_
 obtain ⟨kp,ep,hp⟩:=hR.hp
 have lp:=Ja7 hp
 obtain ⟨kx,ex,hx⟩:=hR.hx
 have lx:=Ja7 hx
 have np:=hR.np
 have nx:=hR.nx
 have pl:(Jb2 s.np (pC s)).length=s.np*5:=Ja6 (w:=5) (F:=pC s) (fun _=>rfl) _
 have xl:(Jb2 s.nx (xC s)).length=s.nx*13:=Ja6 (w:=13) (F:=xC s) (fun _=>rfl) _
 have sc:(Jb2 s.nx (mvF s f)).length=s.nx*24:=Ja6 (w:=24) (F:=mvF s f) (fun _=>rfl) _
 have hgw:=hG.w
 have hgh:=hG.h
 have hgd:=hG.dp
 have hgx:=hG.nx
 have hm1:0<=y*s.w:=Int.mul_nonneg (by omega) (by omega)
 have hm2:y*s.w<=64*64:=Int.mul_le_mul (by omega) (by omega) (by omega) (by omega)
 obtain ⟨yw,hyw⟩:∃ z,y*s.w=z:=⟨_,rfl⟩
 rw [hyw] at hm1 hm2
 have w1:IntKind.i64.wrap yw=yw:=wi (by omega)
 have w2:IntKind.i64.wrap (yw+x)=yw+x:=wi (by omega)
 have w3:IntKind.i64.wrap (f*65536)=f*65536:=wi (by omega)
 have w4:IntKind.i64.wrap (f*65536+s.sh)=f*65536+s.sh:=wi (by have:=hG.sh;omega)
 have hsh:=hG.sh
 obtain ⟨A,hA⟩:∃ A,Jg7 s (f*65536)=A:=⟨_,rfl⟩
 obtain ⟨B,hB⟩:∃ B,Jg7 s (f*65536+s.sh)=B:=⟨_,rfl⟩
 rw [hA,hB] at hQ
 obtain ⟨R9,hR0⟩:∃ R,Jm0 s f A B x y sm=R:=⟨_,rfl⟩
 rw [hR0] at hQ
 unfold Jm0 at hR0
 obtain ⟨k,hk⟩:∃ k,Xa0 s f x y sm=k:=⟨_,rfl⟩
 rw [hk] at hR0
 have hkc:kyC k=[.int .u64 s.sd,.int .i64 f,.int .i64 (yw+x),.int .i64 sm]:=by rw [<-hk,<-hyw];rfl
 obtain ⟨pt,hpt⟩:∃ z,k.u 2=z:=⟨_,rfl⟩
 obtain ⟨u0,hu0⟩:∃ z,k.u 0=z:=⟨_,rfl⟩
 obtain ⟨u1,hu1⟩:∃ z,k.u 1=z:=⟨_,rfl⟩
 rw [hpt,hu0,hu1] at hR0
 obtain ⟨VV,hVV⟩:∃ v,Xr9 A B pt=v:=⟨_,rfl⟩
 rw [hVV] at hR0
 obtain ⟨r0,hr0⟩:∃ r,Vp5 VV x y u0 u1 pt=r:=⟨_,rfl⟩
 rw [hr0] at hR0
 have hry:=Vy5 r0
 have hdn:((s.dp.toNat:Nat):Int)=s.dp:=Int.toNat_of_nonneg (by omega)
 have q_1:=Jv6 k (2)
 rw [hkc,hpt] at q_1
 have U1:=ca4 hp (Ja4 hp) hx (ca4 (Ja4 hx) pl xl (ca4 sc @Jg0 @Jf6 (ca4 @Jf9 @Ja5 @Jn5 (ca4 hyw w1 w2 (ca2 w3 w4)))))
 refine AW.c 5 U1 (ca2 (Qj8 s R f _ (hR.app _) hT hJ hX hf hsh (by omega)) q_1) ?_
 have q_2:=fun M hR=>Ku1 s R (f*65536) M hR hT hE hL
 rw [hA] at q_2
 have q_3:=fun M hR=>Ku1 s R (f*65536+s.sh) M hR hT hE hL
 rw [hB] at q_3
 have q_4:=Xf9 A B pt
 rw [hVV] at q_4
 refine AW.d [.rd 0,.val,.ext,.rd 0,.val,.val,.val,.rd 0,.val,.ext,.val,.ext,.fl,.wr] fol U1 (ca3 (q_2 _ (hR.app _)) (q_3 _ (hR.app _)) q_4) ?_
 have q_5:=Jv6 k (0)
 rw [hkc,hu0] at q_5
 have q_6:=Jv6 k (1)
 rw [hkc,hu1] at q_6
 have q_7:=Xd3 VV x y u0 u1 pt
 rw [hr0,hry] at q_7
 refine AW.wd [[.rd 0,.val,.val,.rd 0,.ext,.rd 0,.ext,.val,.ext,.fl,.wr]] 7 U1 (ca3 q_5 q_6 q_7) fun K J0=>?_
 refine AW.loopK [5,10,11,12,13,16,17,18] (fun (q:QT)=>q.b<=s.dp.toNat/\Jr5 (Jd1 s f) k (s.dp.toNat - q.b) q.b q.s=R9/\q.s.s.pt=pt) (fun (q:QT)=>[(19,.one (.bool q.s.sharp)),(20,.one (.int .i64 ((q.b:Int))))]) (fun (q:QT)=>[(m.length+5,⟨.fix,180,0,0,[.int .i64 (q.s.r.o 0),.int .i64 (q.s.r.o 1),.int .i64 (q.s.r.o 2),.int .i64 (q.s.r.d 0),.int .i64 (q.s.r.d 1),.int .i64 (q.s.r.d 2),.int .i64 (q.s.r.part)]⟩),(m.length+6,⟨.fix,56,0,0,[.int .i64 (q.s.s.li 0),.int .i64 (q.s.s.li 1),.int .i64 (q.s.s.li 2),.int .i64 (q.s.s.dep),.int .i64 (q.s.s.no 0),.int .i64 (q.s.s.no 1),.int .i64 (q.s.s.no 2),.int .i64 (q.s.s.po 0),.int .i64 (q.s.s.po 1),.int .i64 (q.s.s.po 2),.int .i64 (q.s.s.ba 0),.int .i64 (q.s.s.ba 1),.int .i64 (q.s.s.ba 2),.int .i64 (q.s.s.sh),.int .i64 (q.s.s.pt)]⟩),(m.length+7,⟨.fix,24,0,0,[.int .i64 (q.s.w 0),.int .i64 (q.s.w 1),.int .i64 (q.s.w 2)]⟩)]) (fun (q:QT)=>s.dp.toNat - q.b) ⟨0,⟨Qe6 pt,fun _=>65536,true,r0⟩⟩ ⟨Nat.zero_le _,hR0,rfl⟩ ?_ ?_ fun (q:QT) hi2=>?_
 · first|rfl|(simp only [KS,simprocAttr,Qe6,Int.natCast_zero]<;>repeat' (first|rfl|apply And.intro))
 · (simp only [Ja2,push_cast,simprocAttr,Qe6])<;>rfl
 obtain ⟨bb,⟨sn,wt,shp,rr⟩⟩:=q
 have hq:=hi2
 dsimp only at hq ⊢
 obtain ⟨hbd,hR9,hpt9⟩:=hq
 try simp only [Ja9,Ja2,push_cast,simprocAttr,U1]
 refine AW.w 2 U1 Tru fun K J1=>?_
 refine AW.cond rfl (fun h76=>?_) (fun h76=>?_)
 ·have hbn:bb<s.dp.toNat:=by have:=of_decide_eq_true h76;omega
  obtain ⟨d,hd9⟩:∃ d:Int,d=3+8*(bb:Int):=⟨_,rfl⟩
  have hdp9:=hG.dp
  have wd8:IntKind.i64.wrap (8*(bb:Int))=8*(bb:Int):=wi (by omega)
  have wd9:IntKind.i64.wrap (3+8*(bb:Int))=d:=by rw [hd9];exact wi (by omega)
  have wd3:IntKind.i64.wrap (d+3)=d+3:=wi (by omega)
  have wd4:IntKind.i64.wrap (d+4)=d+4:=wi (by omega)
  have wd5:IntKind.i64.wrap (d+5)=d+5:=wi (by omega)
  have hdr:0<=d/\d<=1000:=by omega
  have hwi:IntKind.i64.wrap ((bb:Int)+1)=(bb:Int)+1:=wi (by omega)
  refine AW.w 4 Tru Tru fun K J1=>?_
  have U2:=ca4 U1 wd8 wd9 (ca4 wd3 wd4 wd5 hwi)
  refine AW.c 1 U2 Tru ?_
  refine AW.q fun K J2=>?_
  rcases hF0:Js2 (Jd1 s f) rr 1024 2147483648 with _|⟨t9,i9⟩
  ·have hz8:htC (Jf4 rr (mvS s f) none)=[.int .i64 0,.int .i64 0,.int .i64 0,.int .i64 0,.int .i64 0,.int .i64 0,.int .i64 0,.int .i64 0]:=rfl
   have hR8:R9=sn.add (Jd9 wt s.sk):=by rw [<-hR9];exact Jj7 hbn (by rw [<-hd9];exact Ky7 hF0)
   have hv:snC R9=[.int .i64 (Jd7 sn.li (Jd9 wt s.sk) 0),.int .i64 (Jd7 sn.li (Jd9 wt s.sk) 1),.int .i64 (Jd7 sn.li (Jd9 wt s.sk) 2),.int .i64 (sn.dep),.int .i64 (sn.no 0),.int .i64 (sn.no 1),.int .i64 (sn.no 2),.int .i64 (sn.po 0),.int .i64 (sn.po 1),.int .i64 (sn.po 2),.int .i64 (sn.ba 0),.int .i64 (sn.ba 1),.int .i64 (sn.ba 2),.int .i64 (sn.sh),.int .i64 (sn.pt)]:=by rw [hR8];rfl
   rw [hv] at hQ
   refine AW.rg ?_
   simp only [push_cast,simprocAttr,U2,hz8]
   refine CThen.by ((by have h9:=fun M hb=>Kk6 rr (mvS s f) (m.length+2) 0 s.nx 1024 2147483648 M hb (by omega);rw [show Jg8 (Hq rr (mvS s f) 1024 2147483648) s.nx=_ from hF0] at h9;exact h9 _ ⟨.grow,24,by rw [Jf3];rfl⟩)) ?_
   simp only [push_cast,simprocAttr,U2,hz8]
   apply J2
   refine AW.q fun K J2=>?_
   have U3:=ca2 U2 hz8
   exact AW.fd [[.val,.rd 0,.rd 0,.val,.val,.rd 0,.ext,.ext,.val,.wr]] U3 (ca2 (Ka3 wt s.sk) (Kv2 sn.li (Jd9 wt s.sk)))
  obtain ⟨jj,hjj⟩:∃ j,j=(s.xp i9).toNat:=⟨_,rfl⟩
  have dP:=Kd0 s jj
  have hi9:i9<s.nx:=Ke6 hF0
  obtain ⟨h,hh⟩:∃ h,Kd6 (Jd1 s f) rr t9 i9=h:=⟨_,rfl⟩
  have hbh:Jf4 rr (mvS s f) (some (t9,i9))=h:=hh
  have hhi:h.i=(i9:Int):=by rw [<-hh];rfl
  have hht:htC h=[.int .i64 h.t,.int .i64 (i9:Int),.int .i64 (h.p 0),.int .i64 (h.p 1),.int .i64 (h.p 2),.int .i64 (h.n 0),.int .i64 (h.n 1),.int .i64 (h.n 2)]:=by unfold htC;rw [hhi];rfl
  obtain ⟨sn1,hsn1⟩:∃ x,Jv2 (Jd1 s f) bb sn h i9=x:=⟨_,rfl⟩
  obtain ⟨sn2,hsn2⟩:∃ x,liS (Jd1 s f) k d ⟨sn,wt,shp,rr⟩ sn1 h i9=x:=⟨_,rfl⟩
  obtain ⟨T,hT⟩:∃ x,Kb8 (Jd1 s f) k d ⟨sn,wt,shp,rr⟩ h i9=x:=⟨_,rfl⟩
  have hT1:Jq8 (s.pk jj) (s.pc jj) (s.pr jj) rr.d h.n (k.u (d+3)) (k.u (d+4))=T:=by rw [<-hT,hjj];rfl
  have hkd:(Jd1 s f).kd i9=s.pk jj:=by rw [hjj];rfl
  have hcl:(Jd1 s f).cl i9=s.pc jj:=by rw [hjj];rfl
  have hp1:sn1.pt=sn.pt:=by rw [<-hsn1];unfold Jv2;split<;>rfl
  have hp2:sn2.pt=sn.pt:=by rw [<-hp1,<-hsn2];unfold liS;split<;>rfl
  have hiA:=hi9
  have hxjA:s.xp i9=(jj:Int):=by have:=hG.xp i9 hiA;omega
  have hjnA:jj<s.np:=by have:=hG.xp i9 hiA;omega
  have d1A:(0:Int)<=(jj:Int):=by omega
  have d2A:(jj:Int)<(s.np:Int):=by omega
  have d3A:jj*5+5<=s.np*5:=by omega
  have d4A:=Jb7 (w:=5) (F:=pC s) (fun _=>rfl) hjnA
  have d5A:=Kd0 s jj
  have d6A:List.take 3 (List.drop (jj*5+1) (Jb2 s.np (pC s)))=[.int .i64 (s.pc jj 0),.int .i64 (s.pc jj 1),.int .i64 (s.pc jj 2)]:=by
    have e:(Jb2 s.np (pC s)).drop (jj*5+1)=((Jb2 s.np (pC s)).drop (jj*5)).drop 1:=by rw [List.drop_drop]
    have q:=congrArg (fun l=>List.take 3 (List.drop 1 l)) (d4A.trans d5A)
    rw [List.drop_take,List.take_take] at q
    rw [e];exact q
  have d7A:jj*5+1+3<=s.np*5:=by omega
  have x1A:(0:Int)<=(i9:Int):=by omega
  have x2A:(i9:Int)<(s.nx:Int):=by omega
  have x3A:i9*13+13<=s.nx*13:=by omega
  have x4A:(Jb2 s.nx (xC s))[i9*13+1]?=some (.int .i64 (s.xp i9)):=Jg9 (w:=13) (F:=xC s) (fun _=>rfl) hiA (a:=1) (by omega)
  refine AW.rg ?_
  have U4:=ca4 U2 dP hhi (ca4 hxjA d1A d2A (ca4 d3A d4A d5A (ca4 d6A d7A x1A (ca4 x2A x3A x4A (ca2 hjnA hiA)))))
  simp only [push_cast,simprocAttr,htC,U4]
  refine CThen.by ((by have h9:=fun M hb=>Kk6 rr (mvS s f) (m.length+2) 0 s.nx 1024 2147483648 M hb (by omega);rw [show Jg8 (Hq rr (mvS s f) 1024 2147483648) s.nx=_ from hF0,hbh] at h9;exact h9 _ ⟨.grow,24,by rw [Jf3];rfl⟩)) ?_
  simp only [push_cast,simprocAttr,htC,U4]
  apply J2
  refine AW.q fun K J2=>?_
  have U5:=ca2 @Ji7 U4
  refine AW.wd [[.val,.rd 0,.val,.rd 0,.val,.rd 0,.val,.val,.rd 0,.val,.rd 0,.ext,.wr]] 7 U5 Tru fun K J2=>?_
  refine AW.condJ rfl [5,10,11,12,13,16,17,18,19,20,21,22,24] [] [(m.length+6,⟨.fix,56,0,0,[.int .i64 (sn1.li 0),.int .i64 (sn1.li 1),.int .i64 (sn1.li 2),.int .i64 (sn1.dep),.int .i64 (sn1.no 0),.int .i64 (sn1.no 1),.int .i64 (sn1.no 2),.int .i64 (sn1.po 0),.int .i64 (sn1.po 1),.int .i64 (sn1.po 2),.int .i64 (sn1.ba 0),.int .i64 (sn1.ba 1),.int .i64 (sn1.ba 2),.int .i64 (sn1.sh),.int .i64 (sn1.pt)]⟩)] (fun h112=>?_) (fun h112=>?_) ?_
  ·have hb0:bb=0:=by have:=eq_of_beq h112;omega
   have X1:sn1=⟨sn.li,h.t,h.n,h.p,(Jd1 s f).cl i9,(i9:Int),sn.pt⟩:=by rw [<-hsn1];exact if_pos hb0
   rw [hcl] at X1
   have p1li0:sn1.li 0=sn.li 0:=by have q:=congrArg (fun z:SN=>z.li 0) X1;exact q
   have p1li1:sn1.li 1=sn.li 1:=by have q:=congrArg (fun z:SN=>z.li 1) X1;exact q
   have p1li2:sn1.li 2=sn.li 2:=by have q:=congrArg (fun z:SN=>z.li 2) X1;exact q
   have p1no0:sn1.no 0=h.n 0:=by have q:=congrArg (fun z:SN=>z.no 0) X1;exact q
   have p1no1:sn1.no 1=h.n 1:=by have q:=congrArg (fun z:SN=>z.no 1) X1;exact q
   have p1no2:sn1.no 2=h.n 2:=by have q:=congrArg (fun z:SN=>z.no 2) X1;exact q
   have p1po0:sn1.po 0=h.p 0:=by have q:=congrArg (fun z:SN=>z.po 0) X1;exact q
   have p1po1:sn1.po 1=h.p 1:=by have q:=congrArg (fun z:SN=>z.po 1) X1;exact q
   have p1po2:sn1.po 2=h.p 2:=by have q:=congrArg (fun z:SN=>z.po 2) X1;exact q
   have p1ba0:sn1.ba 0=s.pc jj 0:=by have q:=congrArg (fun z:SN=>z.ba 0) X1;exact q
   have p1ba1:sn1.ba 1=s.pc jj 1:=by have q:=congrArg (fun z:SN=>z.ba 1) X1;exact q
   have p1ba2:sn1.ba 2=s.pc jj 2:=by have q:=congrArg (fun z:SN=>z.ba 2) X1;exact q
   have p1dep:sn1.dep=h.t:=by have q:=congrArg (fun z:SN=>z.dep) X1;exact q
   have p1sh:sn1.sh=(i9:Int):=by have q:=congrArg (fun z:SN=>z.sh) X1;exact q
   have p1pt:sn1.pt=sn.pt:=by have q:=congrArg (fun z:SN=>z.pt) X1;exact q
   refine AW.w 5 U5 Tru ?_
   try simp only [Ja9,Ja2,push_cast,simprocAttr,U5,p1li0,p1li1,p1li2,p1no0,p1no1,p1no2,p1po0,p1po1,p1po2,p1ba0,p1ba1,p1ba2,p1dep,p1sh,p1pt]
   exact Weak.same (by simp only [KS,simprocAttr,p1li0,p1li1,p1li2,p1no0,p1no1,p1no2,p1po0,p1po1,p1po2,p1ba0,p1ba1,p1ba2,p1dep,p1sh,p1pt]) (by first|rfl|simp only [KS,simprocAttr,p1li0,p1li1,p1li2,p1no0,p1no1,p1no2,p1po0,p1po1,p1po2,p1ba0,p1ba1,p1ba2,p1dep,p1sh,p1pt])
  ·have hb0:¬bb=0:=fun q=>by rw [q] at h112;cases h112
   have X1:sn1=sn:=by rw [<-hsn1];exact if_neg hb0
   have p1li0:sn1.li 0=sn.li 0:=by have q:=congrArg (fun z:SN=>z.li 0) X1;exact q
   have p1li1:sn1.li 1=sn.li 1:=by have q:=congrArg (fun z:SN=>z.li 1) X1;exact q
   have p1li2:sn1.li 2=sn.li 2:=by have q:=congrArg (fun z:SN=>z.li 2) X1;exact q
   have p1no0:sn1.no 0=sn.no 0:=by have q:=congrArg (fun z:SN=>z.no 0) X1;exact q
   have p1no1:sn1.no 1=sn.no 1:=by have q:=congrArg (fun z:SN=>z.no 1) X1;exact q
   have p1no2:sn1.no 2=sn.no 2:=by have q:=congrArg (fun z:SN=>z.no 2) X1;exact q
   have p1po0:sn1.po 0=sn.po 0:=by have q:=congrArg (fun z:SN=>z.po 0) X1;exact q
   have p1po1:sn1.po 1=sn.po 1:=by have q:=congrArg (fun z:SN=>z.po 1) X1;exact q
   have p1po2:sn1.po 2=sn.po 2:=by have q:=congrArg (fun z:SN=>z.po 2) X1;exact q
   have p1ba0:sn1.ba 0=sn.ba 0:=by have q:=congrArg (fun z:SN=>z.ba 0) X1;exact q
   have p1ba1:sn1.ba 1=sn.ba 1:=by have q:=congrArg (fun z:SN=>z.ba 1) X1;exact q
   have p1ba2:sn1.ba 2=sn.ba 2:=by have q:=congrArg (fun z:SN=>z.ba 2) X1;exact q
   have p1dep:sn1.dep=sn.dep:=by have q:=congrArg (fun z:SN=>z.dep) X1;exact q
   have p1sh:sn1.sh=sn.sh:=by have q:=congrArg (fun z:SN=>z.sh) X1;exact q
   have p1pt:sn1.pt=sn.pt:=by have q:=congrArg (fun z:SN=>z.pt) X1;exact q
   refine AW.w 1 Tru Tru ?_
   try simp only [Ja9,Ja2,push_cast,simprocAttr,U5,p1li0,p1li1,p1li2,p1no0,p1no1,p1no2,p1po0,p1po1,p1po2,p1ba0,p1ba1,p1ba2,p1dep,p1sh,p1pt]
   exact Weak.same (by simp only [KS,simprocAttr,p1li0,p1li1,p1li2,p1no0,p1no1,p1no2,p1po0,p1po1,p1po2,p1ba0,p1ba1,p1ba2,p1dep,p1sh,p1pt]) (by first|rfl|simp only [KS,simprocAttr,p1li0,p1li1,p1li2,p1no0,p1no1,p1no2,p1po0,p1po1,p1po2,p1ba0,p1ba1,p1ba2,p1dep,p1sh,p1pt])
  try simp only [Ja9,Ja2,push_cast,simprocAttr,U5]
  refine AW.w 2 Tru Tru fun K J2=>?_
  refine AW.q fun K J3=>?_
  have hk19:(s.pk jj=3/\shp=true)\/(s.pk jj=3/\shp=false)\/¬s.pk jj=3:=by cases shp<;>simp<;>omega
  rcases hk19 with ⟨h3,hsp⟩|⟨h3,hsp⟩|h3
  ·have h3w:(Jd1 s f).kd i9=3:=hkd.trans h3
   have k3:(s.pk jj ==3)=true:=beq_iff_eq.2 h3
   subst hsp
   have hR8:R9=sn1.add (Jd9 wt ((Jd1 s f).cl i9)):=by rw [<-hR9];exact Jj7 hbn (by rw [<-hd9];exact Ky8 hF0 hh hsn1 h3w rfl)
   rw [hcl] at hR8
   have hv:snC R9=[.int .i64 (Jd7 sn1.li (Jd9 wt (s.pc jj)) 0),.int .i64 (Jd7 sn1.li (Jd9 wt (s.pc jj)) 1),.int .i64 (Jd7 sn1.li (Jd9 wt (s.pc jj)) 2),.int .i64 (sn1.dep),.int .i64 (sn1.no 0),.int .i64 (sn1.no 1),.int .i64 (sn1.no 2),.int .i64 (sn1.po 0),.int .i64 (sn1.po 1),.int .i64 (sn1.po 2),.int .i64 (sn1.ba 0),.int .i64 (sn1.ba 1),.int .i64 (sn1.ba 2),.int .i64 (sn1.sh),.int .i64 (sn1.pt)]:=by rw [hR8];rfl
   rw [hv] at hQ
   have U6:=ca2 U5 k3
   exact AW.fd [[.val,.rd 0,.rd 0,.val,.rd 0,.ext,.ext,.val,.wr]] U6 (ca2 (Ka3 wt (s.pc jj)) (Kv2 sn1.li (Jd9 wt (s.pc jj))))
  ·have h3w:(Jd1 s f).kd i9=3:=hkd.trans h3
   have k3:(s.pk jj ==3)=true:=beq_iff_eq.2 h3
   subst hsp
   have hR8:R9=sn1:=by rw [<-hR9];exact Jj7 hbn (by rw [<-hd9];exact Ky9 hF0 hh hsn1 h3w rfl)
   have hv:snC R9=[.int .i64 (sn1.li 0),.int .i64 (sn1.li 1),.int .i64 (sn1.li 2),.int .i64 (sn1.dep),.int .i64 (sn1.no 0),.int .i64 (sn1.no 1),.int .i64 (sn1.no 2),.int .i64 (sn1.po 0),.int .i64 (sn1.po 1),.int .i64 (sn1.po 2),.int .i64 (sn1.ba 0),.int .i64 (sn1.ba 1),.int .i64 (sn1.ba 2),.int .i64 (sn1.sh),.int .i64 (sn1.pt)]:=by rw [hR8];rfl
   rw [hv] at hQ
   have U7:=ca2 U5 k3
   exact AW.f U7 Tru
  have h3w:¬(Jd1 s f).kd i9=3:=fun q=>h3 (hkd.symm.trans q)
  have k3:(s.pk jj ==3)=false:=by simpa using h3
  have U8:=ca2 U5 k3
  refine AW.w 7 U8 Tru fun K J2=>?_
  refine AW.condJ rfl [5,10,11,12,13,16,17,18,20,21,22,24] [] [(m.length+6,⟨.fix,56,0,0,[.int .i64 (sn2.li 0),.int .i64 (sn2.li 1),.int .i64 (sn2.li 2),.int .i64 (sn2.dep),.int .i64 (sn2.no 0),.int .i64 (sn2.no 1),.int .i64 (sn2.no 2),.int .i64 (sn2.po 0),.int .i64 (sn2.po 1),.int .i64 (sn2.po 2),.int .i64 (sn2.ba 0),.int .i64 (sn2.ba 1),.int .i64 (sn2.ba 2),.int .i64 (sn2.sh),.int .i64 (sn2.pt)]⟩)] (fun h143=>?_) (fun h143=>?_) ?_
  ·have hk0:s.pk jj=0:=eq_of_beq h143
   obtain ⟨lv,hlv⟩:∃ l,Jm4 (Jd1 s f) k d h i9 sn1.pt=l:=⟨_,rfl⟩
   have hlv2:Jm4 (Jd1 s f) k d h i9 pt=lv:=by rw [<-hlv,hp1,hpt9]
   have X2:sn2=sn1.add (Jd9 wt lv):=by rw [<-hsn2,<-hlv];exact if_pos (hkd.trans hk0)
   have p2li0:sn2.li 0=Jd7 sn1.li (Jd9 wt lv) 0:=by have q:=congrArg (fun z:SN=>z.li 0) X2;exact q
   have p2li1:sn2.li 1=Jd7 sn1.li (Jd9 wt lv) 1:=by have q:=congrArg (fun z:SN=>z.li 1) X2;exact q
   have p2li2:sn2.li 2=Jd7 sn1.li (Jd9 wt lv) 2:=by have q:=congrArg (fun z:SN=>z.li 2) X2;exact q
   have p2no0:sn2.no 0=sn1.no 0:=by have q:=congrArg (fun z:SN=>z.no 0) X2;exact q
   have p2no1:sn2.no 1=sn1.no 1:=by have q:=congrArg (fun z:SN=>z.no 1) X2;exact q
   have p2no2:sn2.no 2=sn1.no 2:=by have q:=congrArg (fun z:SN=>z.no 2) X2;exact q
   have p2po0:sn2.po 0=sn1.po 0:=by have q:=congrArg (fun z:SN=>z.po 0) X2;exact q
   have p2po1:sn2.po 1=sn1.po 1:=by have q:=congrArg (fun z:SN=>z.po 1) X2;exact q
   have p2po2:sn2.po 2=sn1.po 2:=by have q:=congrArg (fun z:SN=>z.po 2) X2;exact q
   have p2ba0:sn2.ba 0=sn1.ba 0:=by have q:=congrArg (fun z:SN=>z.ba 0) X2;exact q
   have p2ba1:sn2.ba 1=sn1.ba 1:=by have q:=congrArg (fun z:SN=>z.ba 1) X2;exact q
   have p2ba2:sn2.ba 2=sn1.ba 2:=by have q:=congrArg (fun z:SN=>z.ba 2) X2;exact q
   have p2dep:sn2.dep=sn1.dep:=by have q:=congrArg (fun z:SN=>z.dep) X2;exact q
   have p2sh:sn2.sh=sn1.sh:=by have q:=congrArg (fun z:SN=>z.sh) X2;exact q
   have p2pt:sn2.pt=sn1.pt:=by have q:=congrArg (fun z:SN=>z.pt) X2;exact q
   refine AW.draw [.val,.rd 0,.rd 0,.rd 0,.val,.rd 0,.val,.rd 0,.val,.ext,.ext,.ext,.val,.wr] fol (by decide) (by kernel_rfl) ?_
   simp only [push_cast,simprocAttr,U8]
   refine DCall.z ((by have h9:=fun M hR hm=>Xg3 s R f (m.length+2) 0 k d h i9 pt M hR hm;rw [hkc,hlv2,hht] at h9;exact h9 _ (hR.app _) ⟨.grow,24,by rw [Jf3];rfl⟩ hG hdr hhi hi9)) ?_
   simp only [push_cast,simprocAttr,U8]
   refine DCall.z (Ka3 wt lv _) ?_
   simp only [push_cast,simprocAttr,U8]
   refine DCall.z (Kv2 sn1.li (Jd9 wt lv) _) ?_
   simp only [push_cast,simprocAttr,U8]
   apply Jk2
   try simp only [Ja9,Ja2,push_cast,simprocAttr,U8,p2li0,p2li1,p2li2,p2no0,p2no1,p2no2,p2po0,p2po1,p2po2,p2ba0,p2ba1,p2ba2,p2dep,p2sh,p2pt]
   exact Weak.same (by simp only [KS,simprocAttr,p2li0,p2li1,p2li2,p2no0,p2no1,p2no2,p2po0,p2po1,p2po2,p2ba0,p2ba1,p2ba2,p2dep,p2sh,p2pt]) (by first|rfl|simp only [KS,simprocAttr,p2li0,p2li1,p2li2,p2no0,p2no1,p2no2,p2po0,p2po1,p2po2,p2ba0,p2ba1,p2ba2,p2dep,p2sh,p2pt])
  ·have hk0:¬s.pk jj=0:=fun q=>by rw [q] at h143;cases h143
   have X2:sn2=sn1:=by rw [<-hsn2];exact if_neg (fun q=>hk0 (hkd.symm.trans q))
   have p2li0:sn2.li 0=sn1.li 0:=by have q:=congrArg (fun z:SN=>z.li 0) X2;exact q
   have p2li1:sn2.li 1=sn1.li 1:=by have q:=congrArg (fun z:SN=>z.li 1) X2;exact q
   have p2li2:sn2.li 2=sn1.li 2:=by have q:=congrArg (fun z:SN=>z.li 2) X2;exact q
   have p2no0:sn2.no 0=sn1.no 0:=by have q:=congrArg (fun z:SN=>z.no 0) X2;exact q
   have p2no1:sn2.no 1=sn1.no 1:=by have q:=congrArg (fun z:SN=>z.no 1) X2;exact q
   have p2no2:sn2.no 2=sn1.no 2:=by have q:=congrArg (fun z:SN=>z.no 2) X2;exact q
   have p2po0:sn2.po 0=sn1.po 0:=by have q:=congrArg (fun z:SN=>z.po 0) X2;exact q
   have p2po1:sn2.po 1=sn1.po 1:=by have q:=congrArg (fun z:SN=>z.po 1) X2;exact q
   have p2po2:sn2.po 2=sn1.po 2:=by have q:=congrArg (fun z:SN=>z.po 2) X2;exact q
   have p2ba0:sn2.ba 0=sn1.ba 0:=by have q:=congrArg (fun z:SN=>z.ba 0) X2;exact q
   have p2ba1:sn2.ba 1=sn1.ba 1:=by have q:=congrArg (fun z:SN=>z.ba 1) X2;exact q
   have p2ba2:sn2.ba 2=sn1.ba 2:=by have q:=congrArg (fun z:SN=>z.ba 2) X2;exact q
   have p2dep:sn2.dep=sn1.dep:=by have q:=congrArg (fun z:SN=>z.dep) X2;exact q
   have p2sh:sn2.sh=sn1.sh:=by have q:=congrArg (fun z:SN=>z.sh) X2;exact q
   have p2pt:sn2.pt=sn1.pt:=by have q:=congrArg (fun z:SN=>z.pt) X2;exact q
   refine AW.w 1 Tru Tru ?_
   try simp only [Ja9,Ja2,push_cast,simprocAttr,U8,p2li0,p2li1,p2li2,p2no0,p2no1,p2no2,p2po0,p2po1,p2po2,p2ba0,p2ba1,p2ba2,p2dep,p2sh,p2pt]
   exact Weak.same (by simp only [KS,simprocAttr,p2li0,p2li1,p2li2,p2no0,p2no1,p2no2,p2po0,p2po1,p2po2,p2ba0,p2ba1,p2ba2,p2dep,p2sh,p2pt]) (by first|rfl|simp only [KS,simprocAttr,p2li0,p2li1,p2li2,p2no0,p2no1,p2no2,p2po0,p2po1,p2po2,p2ba0,p2ba1,p2ba2,p2dep,p2sh,p2pt])
  try simp only [Ja9,Ja2,push_cast,simprocAttr,U8]
  apply J2
  have q_8:=Jv6 k (d+3)
  rw [hkc] at q_8
  have q_9:=Jv6 k (d+4)
  rw [hkc] at q_9
  have q_10:=Xw4 (s.pk jj) (s.pc jj) (s.pr jj) rr.d h.n (k.u (d+3)) (k.u (d+4))
  rw [hT1] at q_10
  unfold tnC c3C at q_10
  refine AW.wd [[.rd 0,.val,.rd 0,.val,.rd 0,.rd 0,.val,.val,.ext,.rd 0,.val,.val,.ext,.ext,.fl,.wr]] 2 U8 (ca3 q_8 q_9 q_10) fun K J2=>?_
  refine AW.q fun K J3=>?_
  cases hg:T.g
  ·have hR8:R9=sn2:=by rw [<-hR9];exact Jj7 hbn (by rw [<-hd9];exact Ky6 hF0 hh hsn1 hsn2 hT h3w hg)
   have hv:snC R9=[.int .i64 (sn2.li 0),.int .i64 (sn2.li 1),.int .i64 (sn2.li 2),.int .i64 (sn2.dep),.int .i64 (sn2.no 0),.int .i64 (sn2.no 1),.int .i64 (sn2.no 2),.int .i64 (sn2.po 0),.int .i64 (sn2.po 1),.int .i64 (sn2.po 2),.int .i64 (sn2.ba 0),.int .i64 (sn2.ba 1),.int .i64 (sn2.ba 2),.int .i64 (sn2.sh),.int .i64 (sn2.pt)]:=by rw [hR8];rfl
   rw [hv] at hQ
   have U9:=ca2 U8 hg
   exact AW.f U9 Tru
  skip
  have U10:=ca2 U8 hg
  refine AW.w 8 U10 (Ka3 wt T.l) fun K J2=>?_
  refine AW.q fun K J3=>?_
  have hk29:bb=0\/(¬bb=0/\Kw0 (Jd9 wt T.l)<=Jb6 (k.u (d+5)))\/(¬bb=0/\¬Kw0 (Jd9 wt T.l)<=Jb6 (k.u (d+5))):=by
    by_cases q1:bb=0
    · exact .inl q1
    by_cases q2:Kw0 (Jd9 wt T.l)<=Jb6 (k.u (d+5))
    · exact .inr (.inl ⟨q1,q2⟩)
    exact .inr (.inr ⟨q1,q2⟩)
  rcases hk29 with hb0|⟨hb0,hl9⟩|⟨hb0,hl9⟩
  ·have e9:¬(1:Int)<=(bb:Int):=by omega
   have hNx:bb+1<=s.dp.toNat/\Jr5 (Jd1 s f) k (s.dp.toNat - (bb+1)) (bb+1) ⟨sn2,Jd9 wt T.l,T.s,⟨h.p,T.d,sn.pt⟩⟩=R9:=⟨hbn,by rw [<-hR9];exact (Kc0 hbn (by rw [<-hd9];exact Qi7 hF0 hh hsn1 hsn2 hT h3w hg hb0)).symm⟩
   have hmu:s.dp.toNat - (bb+1)<s.dp.toNat - bb:=by omega
   have U11:=ca2 U10 e9
   refine AW.w 8 U11 Tru ?_
   refine ⟨⟨bb+1,⟨sn2,Jd9 wt T.l,T.s,⟨h.p,T.d,sn.pt⟩⟩⟩,⟨hNx.1,hNx.2,hp2.trans hpt9⟩,hmu,?_⟩
   try simp only [Ja9,Ja2,push_cast,simprocAttr,U11,hwi,hp2,hpt9,Int.natCast_add,Int.natCast_one]
   exact Weak.to (extra:=_) (by simp only [KS,simprocAttr,hwi,hp2,hpt9,Int.natCast_add,Int.natCast_one]) (by first|rfl|(simp only [List.append_assoc,List.cons_append,List.nil_append];rfl)) (by first|rfl|(simp [AV.below,CV.below];done)|(simp [AV.below,CV.below];omega)) (by exact MWf.app (hwf.grow (by simp)) (Ja0 (hR.bel _ (by simp)) (Ja0 rfl (Ja0 (Jb8 _ (fun _=>rfl) _) (Ja0 rfl (Ja0 rfl (Ja0 rfl (Ja0 rfl (Ja0 rfl Jb3)))))))))
  ·have e9:(1:Int)<=(bb:Int):=by omega
   have hR8:R9=sn2:=by rw [<-hR9];exact Jj7 hbn (by rw [<-hd9];exact Kz0 hF0 hh hsn1 hsn2 hT h3w hg hb0 hl9)
   have hv:snC R9=[.int .i64 (sn2.li 0),.int .i64 (sn2.li 1),.int .i64 (sn2.li 2),.int .i64 (sn2.dep),.int .i64 (sn2.no 0),.int .i64 (sn2.no 1),.int .i64 (sn2.no 2),.int .i64 (sn2.po 0),.int .i64 (sn2.po 1),.int .i64 (sn2.po 2),.int .i64 (sn2.ba 0),.int .i64 (sn2.ba 1),.int .i64 (sn2.ba 2),.int .i64 (sn2.sh),.int .i64 (sn2.pt)]:=by rw [hR8];rfl
   rw [hv] at hQ
   have U12:=ca2 U10 e9
   refine AW.w 3 U12 Tru ?_
   have q_11:=Jv6 k (d+5)
   rw [hkc] at q_11
   exact AW.fd [[.rd 0,.rd 0,.val,.val,.ext,.ext,.val,.val,.val,.fl,.wr,.val]] U12 (ca2 q_11 (Vo5 (Jd9 wt T.l) (k.u (d+5)) _ hl9))
  have e9:(1:Int)<=(bb:Int):=by omega
  have hNx:bb+1<=s.dp.toNat/\Jr5 (Jd1 s f) k (s.dp.toNat - (bb+1)) (bb+1) ⟨sn2,Jn4 (Jd9 wt T.l) (k.u (d+5)),T.s,⟨h.p,T.d,sn.pt⟩⟩=R9:=⟨hbn,by rw [<-hR9];exact (Kc0 hbn (by rw [<-hd9];exact Qx9 hF0 hh hsn1 hsn2 hT h3w hg hb0 hl9)).symm⟩
  have hmu:s.dp.toNat - (bb+1)<s.dp.toNat - bb:=by omega
  have U13:=ca2 U10 e9
  refine AW.w 3 U13 Tru ?_
  have q_12:=Jv6 k (d+5)
  rw [hkc] at q_12
  refine AW.wd [[.rd 0,.rd 0,.val,.val,.ext,.ext,.val,.val,.val,.fl,.wr,.val]] 11 U13 (ca2 q_12 (Vo6 (Jd9 wt T.l) (k.u (d+5)) _ hl9)) ?_
  refine ⟨⟨bb+1,⟨sn2,Jn4 (Jd9 wt T.l) (k.u (d+5)),T.s,⟨h.p,T.d,sn.pt⟩⟩⟩,⟨hNx.1,hNx.2,hp2.trans hpt9⟩,hmu,?_⟩
  try simp only [Ja9,Ja2,push_cast,simprocAttr,U13,hwi,hp2,hpt9,Int.natCast_add,Int.natCast_one]
  exact Weak.to (extra:=_) (by simp only [KS,simprocAttr,hwi,hp2,hpt9,Int.natCast_add,Int.natCast_one]) (by first|rfl|(simp only [List.append_assoc,List.cons_append,List.nil_append];rfl)) (by first|rfl|(simp [AV.below,CV.below];done)|(simp [AV.below,CV.below];omega)) (by exact MWf.app (hwf.grow (by simp)) (Ja0 (hR.bel _ (by simp)) (Ja0 rfl (Ja0 (Jb8 _ (fun _=>rfl) _) (Ja0 rfl (Ja0 rfl (Ja0 rfl (Ja0 rfl (Ja0 rfl Jb3)))))))))
 have hbn:¬bb<s.dp.toNat:=by have:=of_decide_eq_false h76;omega
 have hbe:bb=s.dp.toNat:=by omega
 have hR8:R9=sn:=by rw [<-hR9];exact Ky4 (by omega)
 have hv:snC R9=[.int .i64 (sn.li 0),.int .i64 (sn.li 1),.int .i64 (sn.li 2),.int .i64 (sn.dep),.int .i64 (sn.no 0),.int .i64 (sn.no 1),.int .i64 (sn.no 2),.int .i64 (sn.po 0),.int .i64 (sn.po 1),.int .i64 (sn.po 2),.int .i64 (sn.ba 0),.int .i64 (sn.ba 1),.int .i64 (sn.ba 2),.int .i64 (sn.sh),.int .i64 (sn.pt)]:=by rw [hR8];rfl
 rw [hv] at hQ
 exact AW.f U1 Tru
structure GdS (s:SC):Prop where
 hd:HdR s
 p:s.np<=32
 pa:∀ i,i<s.np->PaR s i
 t:s.nt<=32
 tr:∀ i,i<s.nt->TrS s i
 j:s.nj<=32
 jo:∀ i,i<s.nj->JoR s i
 x:s.nx<=128
 sh:∀ i,i<s.nx->ShR s i
 le:LeR s
 la:(Jm3 (glB s) s.nx).length<=16
theorem Js4 {s:SC}(h:(Ji5 s).1=0):GdS s/\Ji5 s=(0,0):=by
 have fb:∀ (P:Nat->Prop) [DecidablePred P] (n:Nat),¬fbN (fun i=>decide (P i)) n<n->∀ k,k<n->P k:=fun P _ n q k hk=>by
  have:=Qo4 (f:=fun i=>decide (P i)) n (by have:=Kg7 (fun i=>decide (P i)) n;omega) k hk
  exact of_decide_eq_true this
 have h0:=h
 unfold Ji5 at h
 split at h
 ·exact absurd h (by decide)
 rename_i a1
 split at h
 ·exact absurd h (by decide)
 rename_i a2
 split at h
 ·exact absurd h (by simp)
 rename_i a3
 split at h
 ·exact absurd h (by decide)
 rename_i a4
 split at h
 ·exact absurd h (by simp)
 rename_i a5
 split at h
 ·exact absurd h (by decide)
 rename_i a6
 split at h
 ·exact absurd h (by simp)
 rename_i a7
 split at h
 ·exact absurd h (by decide)
 rename_i a8
 split at h
 ·exact absurd h (by simp)
 rename_i a9
 split at h
 ·exact absurd h (by decide)
 rename_i a10
 split at h
 ·exact absurd h (by simp)
 rename_i a11
 refine ⟨⟨Classical.not_not.1 a1,by omega,fb (PaR s) _ a3,by omega,fb (TrS s) _ a5,by omega,fb (JoR s) _ a7,by omega,fb (ShR s) _ a9,Classical.not_not.1 a10,by omega⟩,?_⟩
 unfold Ji5
 rw [if_neg a1,if_neg a2,if_neg a3,if_neg a4,if_neg a5,if_neg a6,if_neg a7,if_neg a8,if_neg a9,if_neg a10,if_neg a11]
theorem Xu6 {s:SC}{i:Nat}(h:ShR s i):inB (s.xj i) (-1) ((s.nj:Int) - 1)=true/\inB (s.xp i) 0 ((s.np:Int) - 1)=true:=by
 unfold ShR at h
 split at h
 ·exact ⟨h.1,h.2.1⟩
 exact ⟨h.1,h.2.1⟩
theorem Qc1 {s:SC}(h:GdS s):GoS s where
 xp:=fun i hi=>by have:=inB_iff.1 (Xu6 (h.sh i hi)).2;omega
 nx:=h.x
 lm:=by rw [<-Kd4];exact h.la
 w:=inB_iff.1 h.hd.1
 h:=inB_iff.1 h.hd.2.1
 sm:=inB_iff.1 h.hd.2.2.1
 dp:=inB_iff.1 h.hd.2.2.2.1
 fr:=inB_iff.1 h.hd.2.2.2.2.1
 sh:=⟨h.hd.2.2.2.2.2.1,h.hd.2.2.2.2.2.2.1⟩
theorem GdS.xj {s:SC}(h:GdS s):∀ i,i<s.nx->-1<=s.xj i/\s.xj i<(s.nj:Int):=fun i hi=>by have:=inB_iff.1 (Xu6 (h.sh i hi)).1;omega
theorem GdS.ey {s:SC}(h:GdS s):s.ey<(s.nt:Int):=by have:=inB_iff.1 h.le.1;omega
theorem GdS.lk {s:SC}(h:GdS s):s.lk<(s.nt:Int):=by have:=inB_iff.1 h.le.2.1;omega
theorem Vb0 (s:SC)(R:RWs)(f:Int)(m:Ja1)(hR:ScR 140 119 223 148 155 m s R)(hc:(Ji5 s).1=0)(hf:f<0\/s.fr<=f):Ctr Tryz.prog 10 [.agg (scC s R),.one (.int .i64 f)] m (.tup [(false,[.nilp]),(false,[.int .i64 1])]) m:=by
 refine Ctr.en Tryz.func10 [.tmp 4,.tmp 5] 47 fun hwf Q hQ=>?_
 have e1:((Ji5 s).1 !=0)=false:=by rw [hc];rfl
 have U2:=ca4 @Jg0 @Jf6 @Jf9 (ca2 @Ja5 e1)
 refine AW.w 8 U2 (Vh7 s R _ (hR.app _)) fun K J0=>?_
 refine AW.q fun K J1=>?_
 have hk4:f<0\/(¬f<0/\s.fr<=f):=by omega
 rcases hk4 with e2|⟨e2,e3⟩
 ·skip
  have U3:=ca2 U2 e2
  exact AW.f U3 Tru
 skip
 have U4:=ca3 U2 e2 e3
 exact AW.f U4 Tru
theorem Xi0 (s:SC)(R:RWs)(f:Int)(m:Ja1)(hR:ScR 140 119 223 148 155 m s R)(hc:(Ji5 s).1=0)(h0:0<=f)(h1:f<s.fr)(hn:0<s.nx):Ctr Tryz.prog 10 [.agg (scC s R),.one (.int .i64 f)] m (.tup [(false,[.ptr (m.length+6) 0 0]),(false,[.int .i64 0])]) (m++[⟨.fix,52,0,0,scC s R⟩,⟨.grow,204,0,24,Jb2 s.nx (mvF s f)⟩,⟨.grow,255,0,16,ndL (Ji4 (prM (mvS s f)) s.nx).2⟩,⟨.grow,3,0,1,iC (Ji4 (prM (mvS s f)) s.nx).1⟩,⟨.grow,204,0,24,Jb2 s.nx (mF (mvS s f))⟩,⟨.grow,3,0,1,iC (Jr2 s s.nx)⟩,⟨.fix,135,0,0,scC s R++(.int .i64 f::.sl (m.length+2) 0 0 (Ji4 (prM (mvS s f)) s.nx).2.length::.sl (m.length+3) 0 0 s.nx::.sl (m.length+4) 0 0 s.nx::.sl (m.length+5) 0 0 (Jr2 s s.nx).length::(vwC (Jg7 s (f*65536))++vwC (Jg7 s (f*65536+s.sh))))⟩]):=by
 refine Ctr.en Tryz.func10 [.tmp 4,.tmp 5] 47 fun hwf Q hQ=>?_
 have e1:((Ji5 s).1 !=0)=false:=by rw [hc];rfl
 obtain ⟨hG,_⟩:=Js4 hc
 have hg:=Qc1 hG
 have hfr:=hg.fr
 have hs:=hg.sh
 have hgx:=hG.x
 have hgj:=hG.j
 have hT:=hG.tr
 have hX:=hG.xj
 have hf:0<=f/\f<=1000000:=by omega
 have e2:¬f<0:=by omega
 have e3:¬s.fr<=f:=by omega
 obtain ⟨A,hA⟩:∃ A,Jg7 s (f*65536)=A:=⟨_,rfl⟩
 obtain ⟨B,hB⟩:∃ B,Jg7 s (f*65536+s.sh)=B:=⟨_,rfl⟩
 rw [hA,hB] at hQ
 have U5:=ca4 @Jg0 @Jf6 @Jf9 (ca4 @Ja5 @Jn5 e1 (ca2 e2 e3))
 refine AW.w 12 U5 (Vh7 s R _ (hR.app _)) ?_
 refine AW.q fun K J0=>?_
 refine AW.draw [.rd 0,.val,.rd 0,.val,.ext,.ext,.rd 0,.ext,.rd 0,.val,.rd 0,.val,.ext,.ext,.rd 0,.val,.rd 0,.val,.ext,.ext,.val,.ext,.val,.val] fol (by decide) (by kernel_rfl) ?_
 simp only [push_cast,simprocAttr,U5]
 refine DCall.by (Vg4 s R f _ (hR.app _) hT hX hf hs (by omega) (by omega)) ?_
 simp only [push_cast,simprocAttr,U5]
 refine DCall.by (Xb7 (mvS s f) (m.length+1) 0 s.nx _ ⟨.grow,24,by rw [Jf3];rfl⟩ hgx hn) ?_
 simp only [push_cast,simprocAttr,U5]
 refine DCall.by ((by have h9:=fun M hR=>Vv9 s R M hR;rw [Kd4,Jy0] at h9;exact h9 _ (hR.app _))) ?_
 simp only [push_cast,simprocAttr,U5]
 refine DCall.z ((by have h:=Qb1 s f;unfold hdC c3C at h;exact h _ hf)) ?_
 simp only [push_cast,simprocAttr,U5]
 refine DCall.z ((by have h9:=fun M hR=>Ky3 s R (f*65536) M hR hT;rw [hA] at h9;exact h9 _ (hR.app _))) ?_
 simp only [push_cast,simprocAttr,U5]
 refine DCall.z ((by have h:=Qy3 s f;unfold hdC c3C at h;exact h _ hf hs)) ?_
 simp only [push_cast,simprocAttr,U5]
 refine DCall.z ((by have h9:=fun M hR=>Ky3 s R (f*65536+s.sh) M hR hT;rw [hB] at h9;exact h9 _ (hR.app _))) ?_
 simp only [push_cast,simprocAttr,U5]
 refine DExt.by (by first|rfl|exact (List.append_nil _).symm|(simp only [List.append_assoc,List.cons_append,List.nil_append];rfl)) ?_
 simp only [push_cast,simprocAttr,U5]
 refine AW.w 2 Tru Tru ?_
 refine hQ _ _ _ ?_
 refine RetP.keep (by first|exact Or.inr rfl|exact Or.inl rfl) ?_
 (simp only [Je0,Jb1,Jb9,AV.tv,push_cast,simprocAttr])<;>rfl
theorem Xi1 (s:SC)(R:RWs)(f:Int)(m:Ja1)(hR:ScR 140 119 223 148 155 m s R)(hc:(Ji5 s).1=0)(h0:0<=f)(h1:f<s.fr)(hn:s.nx=0):Ctr Tryz.prog 10 [.agg (scC s R),.one (.int .i64 f)] m (.tup [(false,[.ptr (m.length+4) 0 0]),(false,[.int .i64 0])]) (m++[⟨.fix,52,0,0,scC s R⟩,⟨.grow,204,0,24,Jb2 s.nx (mvF s f)⟩,⟨.grow,204,0,24,Jb2 s.nx (mF (mvS s f))⟩,⟨.grow,3,0,1,iC (Jr2 s s.nx)⟩,⟨.fix,135,0,0,scC s R++(.int .i64 f::.nils::.nils::.sl (m.length+2) 0 0 s.nx::.sl (m.length+3) 0 0 (Jr2 s s.nx).length::(vwC (Jg7 s (f*65536))++vwC (Jg7 s (f*65536+s.sh))))⟩]):=by
 refine Ctr.en Tryz.func10 [.tmp 4,.tmp 5] 47 fun hwf Q hQ=>?_
 have e1:((Ji5 s).1 !=0)=false:=by rw [hc];rfl
 obtain ⟨hG,_⟩:=Js4 hc
 have hg:=Qc1 hG
 have hfr:=hg.fr
 have hs:=hg.sh
 have hgx:=hG.x
 have hgj:=hG.j
 have hT:=hG.tr
 have hX:=hG.xj
 have hf:0<=f/\f<=1000000:=by omega
 have e2:¬f<0:=by omega
 have e3:¬s.fr<=f:=by omega
 obtain ⟨A,hA⟩:∃ A,Jg7 s (f*65536)=A:=⟨_,rfl⟩
 obtain ⟨B,hB⟩:∃ B,Jg7 s (f*65536+s.sh)=B:=⟨_,rfl⟩
 rw [hA,hB] at hQ
 have U6:=ca4 @Jg0 @Jf6 @Jf9 (ca4 @Ja5 @Jn5 e1 (ca2 e2 e3))
 refine AW.w 12 U6 (Vh7 s R _ (hR.app _)) ?_
 refine AW.q fun K J0=>?_
 refine AW.draw [.rd 0,.val,.rd 0,.val,.ext,.ext,.rd 0,.ext,.rd 0,.val,.rd 0,.val,.ext,.ext,.rd 0,.val,.rd 0,.val,.ext,.ext,.val,.ext,.val,.val] fol (by decide) (by kernel_rfl) ?_
 simp only [push_cast,simprocAttr,U6]
 refine DCall.by (Vg4 s R f _ (hR.app _) hT hX hf hs (by omega) (by omega)) ?_
 simp only [push_cast,simprocAttr,U6]
 refine DCall.by (Vk4 (mvS s f) (m.length+1) 0 s.nx _ ⟨.grow,24,by rw [Jf3];rfl⟩ hgx hn) ?_
 simp only [push_cast,simprocAttr,U6]
 refine DCall.by ((by have h9:=fun M hR=>Vv9 s R M hR;rw [Kd4,Jy0] at h9;exact h9 _ (hR.app _))) ?_
 simp only [push_cast,simprocAttr,U6]
 refine DCall.z ((by have h:=Qb1 s f;unfold hdC c3C at h;exact h _ hf)) ?_
 simp only [push_cast,simprocAttr,U6]
 refine DCall.z ((by have h9:=fun M hR=>Ky3 s R (f*65536) M hR hT;rw [hA] at h9;exact h9 _ (hR.app _))) ?_
 simp only [push_cast,simprocAttr,U6]
 refine DCall.z ((by have h:=Qy3 s f;unfold hdC c3C at h;exact h _ hf hs)) ?_
 simp only [push_cast,simprocAttr,U6]
 refine DCall.z ((by have h9:=fun M hR=>Ky3 s R (f*65536+s.sh) M hR hT;rw [hB] at h9;exact h9 _ (hR.app _))) ?_
 simp only [push_cast,simprocAttr,U6]
 refine DExt.by (by first|rfl|exact (List.append_nil _).symm|(simp only [List.append_assoc,List.cons_append,List.nil_append];rfl)) ?_
 simp only [push_cast,simprocAttr,U6]
 refine AW.w 2 Tru Tru ?_
 refine hQ _ _ _ ?_
 refine RetP.keep (by first|exact Or.inr rfl|exact Or.inl rfl) ?_
 (simp only [Je0,Jb1,Jb9,AV.tv,push_cast,simprocAttr])<;>rfl
theorem Qa4 (s:SC)(R:RWs)(f:Int)(m:Ja1)(hR:ScR 140 119 223 148 155 m s R)(hc:(Ji5 s).1=0)(h0:0<=f)(h1:f<s.fr):∃ (L:Ja1) (p:Nat) (E:SE),Ctr Tryz.prog 10 [.agg (scC s R),.one (.int .i64 f)] m (.tup [(false,[.ptr p 0 0]),(false,[.int .i64 0])]) (m++L)/\SetAt (m++L) p s R f E (Jg7 s (f*65536)) (Jg7 s (f*65536+s.sh))/\(MWf m.length m->MWf (m++L).length (m++L)):=by
 obtain ⟨hG,_⟩:=Js4 hc
 have hg:=Qc1 hG
 have hgx:=hG.x
 by_cases hn:s.nx=0
 ·refine ⟨_,m.length+4,⟨.nils,.nils,m.length+2,0,m.length+3,0,fun _ _ _=>0⟩,Xi1 s R f m hR hc h0 h1 hn,?_,fun hw=>by
   refine MWf.app (hw.grow (by simp)) (Ja0 (hR.bel _ (by simp)) (Ja0 (Jb8 _ (fun _=>rfl) _) (Ja0 (Jb8 _ (fun _=>rfl) _) (Ja0 (Jg6 _ _) (Ja0 ?_ Jb3)))))
   have hb:=hR.bel (m.length+5) (by omega)
   simp only [List.length_append,List.length_cons,List.length_nil]
   rw [List.all_append,hb]
   simp [CV.below,vwC,c3C]⟩
  refine ⟨by rw [Jf3];rfl,hR.app _,⟨.grow,24,by rw [Jf3];rfl⟩,⟨.grow,1,by rw [Jf3];rfl⟩,fun L r near far=>?_,hg⟩
  exact Vt7 r (mvS s f) (m.length+2) 0 s.nx near far _ hn
 have hn':0<s.nx:=by omega
 have hC:=Xi0 s R f m hR hc h0 h1 hn'
 obtain ⟨TF,hTF⟩:=Xo2 (mvS s f) (m.length+2) 0 (m.length+3) 0 (m.length+4) 0 s.nx (m++[⟨.fix,52,0,0,scC s R⟩,⟨.grow,204,0,24,Jb2 s.nx (mvF s f)⟩,⟨.grow,255,0,16,ndL (Ji4 (prM (mvS s f)) s.nx).2⟩,⟨.grow,3,0,1,iC (Ji4 (prM (mvS s f)) s.nx).1⟩,⟨.grow,204,0,24,Jb2 s.nx (mF (mvS s f))⟩,⟨.grow,3,0,1,iC (Jr2 s s.nx)⟩,⟨.fix,135,0,0,scC s R++(.int .i64 f::.sl (m.length+2) 0 0 (Ji4 (prM (mvS s f)) s.nx).2.length::.sl (m.length+3) 0 0 s.nx::.sl (m.length+4) 0 0 s.nx::.sl (m.length+5) 0 0 (Jr2 s s.nx).length::(vwC (Jg7 s (f*65536))++vwC (Jg7 s (f*65536+s.sh))))⟩]) hn' (by omega) ⟨.grow,16,by rw [Jf3];rfl⟩ ⟨.grow,1,by rw [Jf3];rfl⟩ ⟨.grow,24,by rw [Jf3];rfl⟩
 refine ⟨_,m.length+6,⟨.sl (m.length+2) 0 0 (Ji4 (prM (mvS s f)) s.nx).2.length,.sl (m.length+3) 0 0 s.nx,m.length+4,0,m.length+5,0,TF⟩,hC,?_,fun hw=>by
  refine MWf.app (hw.grow (by simp)) (Ja0 (hR.bel _ (by simp)) (Ja0 (Jb8 _ (fun _=>rfl) _) (Ja0 (Jb8 _ (fun _=>rfl) _) (Ja0 (Jg6 _ _) (Ja0 (Jb8 _ (fun _=>rfl) _) (Ja0 (Jg6 _ _) (Ja0 ?_ Jb3)))))))
  have hb:=hR.bel (m.length+7) (by omega)
  simp only [List.length_append,List.length_cons,List.length_nil]
  rw [List.all_append,hb]
  simp [CV.below,vwC,c3C]⟩
 exact ⟨by rw [Jf3];rfl,hR.app _,⟨.grow,24,by rw [Jf3];rfl⟩,⟨.grow,1,by rw [Jf3];rfl⟩,hTF,hg⟩
noncomputable def Kg4 (s:SC)(f:Int)(a b:VW)(x y:Int):Nat->V
 | 0=>(Jm0 s f a b x y 0).li
 | n+1=>Jd7 (Kg4 s f a b x y n) (Jm0 s f a b x y ((n+1:Nat):Int)).li
noncomputable def Qv0 (s:SC)(f:Int)(a b:VW)(x y:Int):SN :=
 ⟨Jj9 (Kg4 s f a b x y (s.sm.toNat - 1)) s.sm,(Jm0 s f a b x y 0).dep,(Jm0 s f a b x y 0).no,(Jm0 s f a b x y 0).po,(Jm0 s f a b x y 0).ba,(Jm0 s f a b x y 0).sh,(Jm0 s f a b x y 0).pt⟩
theorem Vp8 (s:SC)(R:RWs)(f:Int)(E:SE)(a b:VW)(p:Nat)(i:Nat)(t:Int)(m:Ja1)(hS:SetAt m p s R f E a b)(hi:i<s.nx):Ctr Tryz.prog 22 [.one (.ptr p 0 0),.one (.int .i64 ((i:Int))),.one (.int .i64 t)] m (.agg (plC (atM (mvS s f i) t))) m:=by
 refine Ctr.en Tryz.func22 [.cell 6 84] 34 fun hwf Q hQ=>?_
 have hps:=hS.hp
 have lps:=Ja7 hps
 have hG:=hS.g
 obtain ⟨kx,ex,hx⟩:=hS.hR.hx
 have lx:=Ja7 hx
 have xl:(Jb2 s.nx (xC s)).length=s.nx*13:=Ja6 (w:=13) (F:=xC s) (fun _=>rfl) _
 obtain ⟨ks,es,hs⟩:=hS.hs
 have ls:=Ja7 hs
 have sc:(Jb2 s.nx (mF (mvS s f))).length=s.nx*24:=Ja6 (w:=24) (F:=mF (mvS s f)) (fun _=>rfl) _
 have e1:¬(i:Int)<0:=by omega
 have e2:¬(s.nx:Int)<=(i:Int):=by omega
 have s1:(0:Int)<=(i:Int):=by omega
 have s2:(i:Int)<(s.nx:Int):=by omega
 have s3:i*24+24<=s.nx*24:=by omega
 have s4:=Jb7 (w:=24) (F:=mF (mvS s f)) (fun _=>rfl) hi
 have s5:mF (mvS s f) i=[.int .i64 (mvS s f i).A.kind,.int .i64 (mvS s f i).A.paint,.int .i64 ((mvS s f i).A.P 0 0),.int .i64 ((mvS s f i).A.P 0 1),.int .i64 ((mvS s f i).A.P 0 2),.int .i64 ((mvS s f i).A.P 1 0),.int .i64 ((mvS s f i).A.P 1 1),.int .i64 ((mvS s f i).A.P 1 2),.int .i64 ((mvS s f i).A.P 2 0),.int .i64 ((mvS s f i).A.P 2 1),.int .i64 ((mvS s f i).A.P 2 2),.int .i64 (mvS s f i).A.r,.int .i64 (mvS s f i).B.kind,.int .i64 (mvS s f i).B.paint,.int .i64 ((mvS s f i).B.P 0 0),.int .i64 ((mvS s f i).B.P 0 1),.int .i64 ((mvS s f i).B.P 0 2),.int .i64 ((mvS s f i).B.P 1 0),.int .i64 ((mvS s f i).B.P 1 1),.int .i64 ((mvS s f i).B.P 1 2),.int .i64 ((mvS s f i).B.P 2 0),.int .i64 ((mvS s f i).B.P 2 1),.int .i64 ((mvS s f i).B.P 2 2),.int .i64 (mvS s f i).B.r]:=rfl
 have U10:=ca4 hps (Ja4 hps) @Qq6 (ca4 @Jg0 @Jf6 @Jf9 (ca4 @Ja5 @Jn5 hx (ca4 (Ja4 hx) xl hs (ca4 (Ja4 hs) sc e1 (ca4 e2 s1 s2 (ca4 s3 s4 s5 hi))))))
 refine AW.c 1 U10 Tru ?_
 refine AW.q fun K J0=>?_
 refine AW.c 1 U10 Tru ?_
 apply AW.x rfl
 apply AW.z
 apply J0
 refine AW.c 1 U10 (at_c (mvS s f i) t) ?_
 exact AW.ret (hQ _ _ _ (RetP.z hwf Tru))
theorem Vc5 (s:SC)(R:RWs)(f:Int)(E:SE)(a b:VW)(p:Nat)(x y:Int)(m:Ja1)(hS:SetAt m p s R f E a b)(hx0:0<=x)(hx1:x<s.w)(hy0:0<=y)(hy1:y<s.h):Ctr Tryz.prog 15 [.one (.ptr p 0 0),.one (.int .i64 x),.one (.int .i64 y)] m (.agg (snC (Qv0 s f a b x y))) m:=by
 refine Ctr.en Tryz.func15 [.cell 6 61] 47 fun hwf Q hQ=>?_
 have hps:=hS.hp
 have lps:=Ja7 hps
 have hG:=hS.g
 obtain ⟨T0,hT0⟩:∃ T,Jm0 s f a b x y 0=T:=⟨_,rfl⟩
 have hgm:=hG.sm
 obtain ⟨N,hN⟩:∃ N:Nat,N=s.sm.toNat:=⟨_,rfl⟩
 have hNs:s.sm=(N:Int):=by omega
 have hv:snC (Qv0 s f a b x y)=[.int .i64 (Jj9 (Kg4 s f a b x y (N - 1)) s.sm 0),.int .i64 (Jj9 (Kg4 s f a b x y (N - 1)) s.sm 1),.int .i64 (Jj9 (Kg4 s f a b x y (N - 1)) s.sm 2),.int .i64 (T0.dep),.int .i64 (T0.no 0),.int .i64 (T0.no 1),.int .i64 (T0.no 2),.int .i64 (T0.po 0),.int .i64 (T0.po 1),.int .i64 (T0.po 2),.int .i64 (T0.ba 0),.int .i64 (T0.ba 1),.int .i64 (T0.ba 2),.int .i64 (T0.sh),.int .i64 (T0.pt)]:=by unfold Qv0;rw [hT0,<-hN];rfl
 rw [hv] at hQ
 have q_2:=fun M hS=>Qx1 s R f E a b p x y 0 M hS hx0 hx1 hy0 hy1
 rw [hT0,show snC T0=[.int .i64 (T0.li 0),.int .i64 (T0.li 1),.int .i64 (T0.li 2),.int .i64 (T0.dep),.int .i64 (T0.no 0),.int .i64 (T0.no 1),.int .i64 (T0.no 2),.int .i64 (T0.po 0),.int .i64 (T0.po 1),.int .i64 (T0.po 2),.int .i64 (T0.ba 0),.int .i64 (T0.ba 1),.int .i64 (T0.ba 2),.int .i64 (T0.sh),.int .i64 (T0.pt)] from rfl] at q_2
 have U11:=ca4 hps (Ja4 hps) @Qq6 (ca4 @Jg0 @Jf6 @Jf9 (ca2 @Ja5 @Jn5))
 refine AW.w 11 U11 (q_2 _ (hS.app _)) fun K J0=>?_
 refine AW.loopK [0,1,2,6,7,8] (fun i=>i+1<=N) (fun i=>[(9,.one (.int .i64 ((i:Int)+1)))]) (fun i=>[(m.length+2,⟨.fix,42,0,0,[.int .i64 (Kg4 s f a b x y i 0),.int .i64 (Kg4 s f a b x y i 1),.int .i64 (Kg4 s f a b x y i 2)]⟩)]) (fun i=>N - i) 0 (by omega) ?_ ?_ fun i hi3=>?_
 · first|rfl|(simp only [KS,simprocAttr,Kg4,hT0,Int.natCast_zero,Int.zero_add,Int.natCast_one]<;>repeat' (first|rfl|apply And.intro))
 · (simp only [Ja2,push_cast,simprocAttr,Kg4,hT0])<;>rfl
 try simp only [Ja9,Ja2,push_cast,simprocAttr,U11]
 refine AW.w 2 U11 Tru fun K J1=>?_
 refine AW.cond rfl (fun h26=>?_) (fun h26=>?_)
 ·have hlt:i+1<N:=by have:=of_decide_eq_true h26;omega
  obtain ⟨T1,hT1⟩:∃ T,Jm0 s f a b x y ((i+1:Nat):Int)=T:=⟨_,rfl⟩
  have hT2:Jm0 s f a b x y ((i:Int)+1)=T1:=by rw [<-hT1];congr 1
  have hst:Kg4 s f a b x y (i+1)=Jd7 (Kg4 s f a b x y i) T1.li:=by rw [<-hT1];rfl
  have hwi:IntKind.i64.wrap ((i:Int)+1+1)=(i:Int)+1+1:=wi (by omega)
  have hsc:=Jx3 T1
  refine AW.w 4 Tru Tru fun K J1=>?_
  have q_3:=fun M hS=>Qx1 s R f E a b p x y ((i:Int)+1) M hS hx0 hx1 hy0 hy1
  rw [hT2,hsc] at q_3
  have U12:=ca3 U11 hsc hT2
  refine AW.wd [[.rd 0,.val,.val,.val,.val,.ext,.val,.ext,.wr]] 3 U12 (ca2 (q_3 _ (hS.app _)) (Qn3 (Kg4 s f a b x y i) T1.li)) ?_
  refine ⟨i+1,by omega,by omega,?_⟩
  try simp only [Ja9,Ja2,push_cast,simprocAttr,U12,hwi,hst,Int.natCast_add,Int.natCast_one]
  exact Weak.to (extra:=_) (by simp only [KS,simprocAttr,hwi,hst,Int.natCast_add,Int.natCast_one]) (by first|rfl|(simp only [List.append_assoc,List.cons_append,List.nil_append];rfl)) (by first|rfl|(simp [AV.below,CV.below];done)|(simp [AV.below,CV.below];omega)) (by exact MWf.app (hwf.grow (by simp)) (Ja0 rfl (Ja0 rfl (Ja0 rfl Jb3))))
 have hin:i=N - 1:=by have:=of_decide_eq_false h26;omega
 rw [hin]
 exact AW.fd [[.rd 0,.val,.val,.val,.val,.val,.rd 0,.ext,.val,.wr]] U11 (Xn1 (Kg4 s f a b x y (N - 1)) s.sm)
theorem Vo4 (s:SC)(R:RWs)(f x y:Int)(m:Ja1)(hR:ScR 138 143 285 146 150 m s R)(hG:GoS s)(hT:∀ i,i<s.nt->TrS s i)(hJ:∀ i,i<s.nj->JoR s i)(hX:∀ i,i<s.nx->-1<=s.xj i/\s.xj i<(s.nj:Int))(hE:s.ey<(s.nt:Int))(hL:s.lk<(s.nt:Int))(hf:0<=f/\f<=1000000)(hx0:0<=x)(hx1:x<s.w)(hy0:0<=y)(hy1:y<s.h):Ctr Tryz.prog 16 [.agg (scC s R),.one (.int .i64 f),.one (.int .i64 x),.one (.int .i64 y)] m (.agg (snC (Qv0 s f (Jg7 s (f*65536)) (Jg7 s (f*65536+s.sh)) x y))) m:=by
 refine Ctr.en Tryz.func16 [.cell 8 56] 42 fun hwf Q hQ=>?_
 obtain ⟨a,ha⟩:∃ a,Jg7 s (f*65536)=a:=⟨_,rfl⟩
 obtain ⟨b,hb⟩:∃ b,Jg7 s (f*65536+s.sh)=b:=⟨_,rfl⟩
 rw [ha,hb] at hQ
 obtain ⟨T0,hT0⟩:∃ T,Jm0 s f a b x y 0=T:=⟨_,rfl⟩
 have hgm:=hG.sm
 obtain ⟨N,hN⟩:∃ N:Nat,N=s.sm.toNat:=⟨_,rfl⟩
 have hNs:s.sm=(N:Int):=by omega
 have hv:snC (Qv0 s f a b x y)=[.int .i64 (Jj9 (Kg4 s f a b x y (N - 1)) s.sm 0),.int .i64 (Jj9 (Kg4 s f a b x y (N - 1)) s.sm 1),.int .i64 (Jj9 (Kg4 s f a b x y (N - 1)) s.sm 2),.int .i64 (T0.dep),.int .i64 (T0.no 0),.int .i64 (T0.no 1),.int .i64 (T0.no 2),.int .i64 (T0.po 0),.int .i64 (T0.po 1),.int .i64 (T0.po 2),.int .i64 (T0.ba 0),.int .i64 (T0.ba 1),.int .i64 (T0.ba 2),.int .i64 (T0.sh),.int .i64 (T0.pt)]:=by unfold Qv0;rw [hT0,<-hN];rfl
 rw [hv] at hQ
 have q_4:=fun M hR=>Qj6 s R f x y 0 M hR hG hT hJ hX hE hL hf hx0 hx1 hy0 hy1
 rw [ha,hb,hT0,show snC T0=[.int .i64 (T0.li 0),.int .i64 (T0.li 1),.int .i64 (T0.li 2),.int .i64 (T0.dep),.int .i64 (T0.no 0),.int .i64 (T0.no 1),.int .i64 (T0.no 2),.int .i64 (T0.po 0),.int .i64 (T0.po 1),.int .i64 (T0.po 2),.int .i64 (T0.ba 0),.int .i64 (T0.ba 1),.int .i64 (T0.ba 2),.int .i64 (T0.sh),.int .i64 (T0.pt)] from rfl] at q_4
 have U13:=ca4 @Jg0 @Jf6 @Jf9 @Ja5
 refine AW.w 6 U13 (q_4 _ (hR.app _)) fun K J0=>?_
 refine AW.loopK [1,2,3,4,8,9,10] (fun i=>i+1<=N) (fun i=>[(11,.one (.int .i64 ((i:Int)+1)))]) (fun i=>[(m.length+3,⟨.fix,24,0,0,[.int .i64 (Kg4 s f a b x y i 0),.int .i64 (Kg4 s f a b x y i 1),.int .i64 (Kg4 s f a b x y i 2)]⟩)]) (fun i=>N - i) 0 (by omega) ?_ ?_ fun i hi2=>?_
 · first|rfl|(simp only [KS,simprocAttr,Kg4,hT0,Int.natCast_zero,Int.zero_add,Int.natCast_one]<;>repeat' (first|rfl|apply And.intro))
 · (simp only [Ja2,push_cast,simprocAttr,Kg4,hT0])<;>rfl
 try simp only [Ja9,Ja2,push_cast,simprocAttr,U13]
 refine AW.w 2 U13 Tru fun K J1=>?_
 refine AW.cond rfl (fun h23=>?_) (fun h23=>?_)
 ·have hlt:i+1<N:=by have:=of_decide_eq_true h23;omega
  obtain ⟨T1,hT1⟩:∃ T,Jm0 s f a b x y ((i+1:Nat):Int)=T:=⟨_,rfl⟩
  have hT2:Jm0 s f a b x y ((i:Int)+1)=T1:=by rw [<-hT1];congr 1
  have hst:Kg4 s f a b x y (i+1)=Jd7 (Kg4 s f a b x y i) T1.li:=by rw [<-hT1];rfl
  have hwi:IntKind.i64.wrap ((i:Int)+1+1)=(i:Int)+1+1:=wi (by omega)
  have hsc:=Jx3 T1
  refine AW.w 4 Tru Tru fun K J1=>?_
  have q_5:=fun M hR=>Qj6 s R f x y ((i:Int)+1) M hR hG hT hJ hX hE hL hf hx0 hx1 hy0 hy1
  rw [ha,hb,hT2,hsc] at q_5
  have U14:=ca3 U13 hsc hT2
  refine AW.wd [[.rd 0,.rd 0,.val,.val,.val,.val,.ext,.val,.ext,.wr]] 3 U14 (ca2 (q_5 _ (hR.app _)) (Kv2 (Kg4 s f a b x y i) T1.li)) ?_
  refine ⟨i+1,by omega,by omega,?_⟩
  try simp only [Ja9,Ja2,push_cast,simprocAttr,U14,hwi,hst,Int.natCast_add,Int.natCast_one]
  exact Weak.to (extra:=_) (by simp only [KS,simprocAttr,hwi,hst,Int.natCast_add,Int.natCast_one]) (by first|rfl|(simp only [List.append_assoc,List.cons_append,List.nil_append];rfl)) (by first|rfl|(simp [AV.below,CV.below];done)|(simp [AV.below,CV.below];omega)) (by exact MWf.app (hwf.grow (by simp)) (Ja0 (hR.bel _ (by simp)) (Ja0 rfl (Ja0 rfl (Ja0 rfl Jb3)))))
 have hin:i=N - 1:=by have:=of_decide_eq_false h23;omega
 rw [hin]
 exact AW.f U13 (Vo9 (Kg4 s f a b x y (N - 1)) s.sm)
theorem f02_c (a:V)(m:Ja1):Ctr Tryz.prog 46 [.agg (c3C a)] m (.agg (c3C a)) m:=by
 exact Ctr.f Tryz.func46 [.cell 2 54] 10 @Ja5 Tru
theorem Ya4 (a:V)(m:Ja1):Ctr Tryz.prog 45 [.agg (c3C a)] m (.agg (c3C a)) m:=by
 exact Ctr.f Tryz.func45 [.cell 2 24] 10 @Ja5 Tru
def SdB (s:SC):Bool:=decide (SmR s)&&((Ji5 s).1 ==0)
structure LtR (s:SC):Prop where
 sm:SmR s
 ck:(Ji5 s).1=0
 px:s.w*s.h<=16
 ns:s.sm<=2
 dp:s.dp<=3
 nx:(s.nx:Int)<=20
 fr:s.fr<=4
theorem Ka1 (s:SC)(R:RWs)(m:Ja1)(hR:ScR 138 143 285 146 150 m s R):Ctr Tryz.prog 32 [.agg (scC s R)] m (.one (.bool (SdB s))) m:=by
 refine Ctr.en Tryz.func32 [.tmp 2] 16 fun hwf Q hQ=>?_
 obtain ⟨zz,hzz⟩:∃ z,SdB s=z:=⟨_,rfl⟩
 rw [hzz] at hQ
 unfold SdB at hzz
 have U4:=ca4 @Jg0 @Jf6 @Jf9 @Ja5
 refine AW.c 2 U4 (Xw2 s R _ (hR.app _)) ?_
 refine AW.q fun K J0=>?_
 by_cases hs:SmR s
 ·have e1:decide (SmR s)=true:=decide_eq_true hs
  rw [e1,Bool.true_and] at hzz
  have U5:=ca3 U4 e1 hzz
  exact AW.f U5 (Xv1 s R _ (hR.app _))
 have e1:decide (SmR s)=false:=decide_eq_false hs
 rw [e1,Bool.false_and] at hzz
 subst hzz
 have U6:=ca2 U4 e1
 exact AW.f U6 (Xv1 s R _ (hR.app _))
theorem l17_f (s:SC)(R:RWs)(m:Ja1)(hR:ScR 138 143 285 146 150 m s R)(hL:¬LtR s):Ctr Tryz.prog 8 [.agg (scC s R)] m (.one (.bool false)) m:=by
 refine Ctr.en Tryz.func8 [.tmp 2] 39 fun hwf Q hQ=>?_
 have hwh:SdB s=true->IntKind.i64.wrap (s.w*s.h)=s.w*s.h:=fun q=>by
   have q1:(Ji5 s).1=0:=by unfold SdB at q;exact eq_of_beq (Bool.and_eq_true_iff.1 q).2
   have hg:=Qc1 (Js4 q1).1
   have a1:=hg.w
   have a2:=hg.h
   have m1:0<=s.w*s.h:=Int.mul_nonneg (by omega) (by omega)
   have m2:s.w*s.h<=64*64:=Int.mul_le_mul (by omega) (by omega) (by omega) (by omega)
   exact wi (by omega)
 have hk:(¬(SdB s=true))\/(SdB s=true/\¬(s.w*s.h<=16))\/(SdB s=true/\s.w*s.h<=16/\¬(s.sm<=2))\/(SdB s=true/\s.w*s.h<=16/\s.sm<=2/\¬(s.dp<=3))\/(SdB s=true/\s.w*s.h<=16/\s.sm<=2/\s.dp<=3/\¬((s.nx:Int)<=20))\/(SdB s=true/\s.w*s.h<=16/\s.sm<=2/\s.dp<=3/\(s.nx:Int)<=20/\¬(s.fr<=4)):=by
   by_cases q0:SdB s=true
   · have q1:SmR s:=by unfold SdB at q0;exact of_decide_eq_true (Bool.and_eq_true_iff.1 q0).1
     have q2:(Ji5 s).1=0:=by unfold SdB at q0;exact eq_of_beq (Bool.and_eq_true_iff.1 q0).2
     by_cases q3:s.w*s.h<=16
     · by_cases q4:s.sm<=2
       · by_cases q5:s.dp<=3
         · by_cases q6:(s.nx:Int)<=20
           · by_cases q7:s.fr<=4
             · exact (hL ⟨q1,q2,q3,q4,q5,q6,q7⟩).elim
             exact .inr (.inr (.inr (.inr (.inr ⟨q0,q3,q4,q5,q6,q7⟩))))
           exact .inr (.inr (.inr (.inr (.inl ⟨q0,q3,q4,q5,q6⟩))))
         exact .inr (.inr (.inr (.inl ⟨q0,q3,q4,q5⟩)))
       exact .inr (.inr (.inl ⟨q0,q3,q4⟩))
     exact .inr (.inl ⟨q0,q3⟩)
   exact .inl q0
 have U7:=ca4 @Jg0 @Jf6 @Jf9 @Ja5
 refine AW.c 1 U7 Tru ?_
 refine AW.q fun K J0=>?_
 rcases hk with g0|⟨g0,g1⟩|⟨g0,g1,g2⟩|⟨g0,g1,g2,g3⟩|⟨g0,g1,g2,g3,g4⟩|⟨g0,g1,g2,g3,g4,g5⟩
 ·have e0:SdB s=false:=by simpa using g0
  have U8:=ca2 U7 e0
  exact AW.f U8 (Ka1 s R _ (hR.app _))
 ·have w1:IntKind.i64.wrap (s.w*s.h)=s.w*s.h:=hwh g0
  have U9:=ca4 U7 g0 w1 g1
  exact AW.f U9 (Ka1 s R _ (hR.app _))
 ·have w1:IntKind.i64.wrap (s.w*s.h)=s.w*s.h:=hwh g0
  have U10:=ca4 U7 g0 w1 (ca2 g1 g2)
  exact AW.f U10 (Ka1 s R _ (hR.app _))
 ·have w1:IntKind.i64.wrap (s.w*s.h)=s.w*s.h:=hwh g0
  have U11:=ca4 U7 g0 w1 (ca3 g1 g2 g3)
  exact AW.f U11 (Ka1 s R _ (hR.app _))
 ·have w1:IntKind.i64.wrap (s.w*s.h)=s.w*s.h:=hwh g0
  have U12:=ca4 U7 g0 w1 (ca4 g1 g2 g3 g4)
  exact AW.f U12 (Ka1 s R _ (hR.app _))
 have w1:IntKind.i64.wrap (s.w*s.h)=s.w*s.h:=hwh g0
 have U13:=ca4 U7 g0 w1 (ca4 g1 g2 g3 (ca2 g4 g5))
 exact AW.f U13 (Ka1 s R _ (hR.app _))
theorem l17_t (s:SC)(R:RWs)(m:Ja1)(hR:ScR 138 143 285 146 150 m s R)(hL:LtR s):Ctr Tryz.prog 8 [.agg (scC s R)] m (.one (.bool true)) m:=by
 have hwh:SdB s=true->IntKind.i64.wrap (s.w*s.h)=s.w*s.h:=fun q=>by
   have q1:(Ji5 s).1=0:=by unfold SdB at q;exact eq_of_beq (Bool.and_eq_true_iff.1 q).2
   have hg:=Qc1 (Js4 q1).1
   have a1:=hg.w
   have a2:=hg.h
   have m1:0<=s.w*s.h:=Int.mul_nonneg (by omega) (by omega)
   have m2:s.w*s.h<=64*64:=Int.mul_le_mul (by omega) (by omega) (by omega) (by omega)
   exact wi (by omega)
 have g0:SdB s=true:=by unfold SdB;rw [decide_eq_true hL.sm,hL.ck];rfl
 have w1:=hwh g0
 have g1:=hL.px
 have g2:=hL.ns
 have g3:=hL.dp
 have g4:=hL.nx
 have g5:=hL.fr
 have U14:=ca4 @Jg0 @Jf6 @Jf9 (ca4 @Ja5 g0 w1 (ca4 g1 g2 g3 (ca2 g4 g5)))
 exact Ctr.f Tryz.func8 [.tmp 2] 39 U14 (Ka1 s R _ (hR.app _))
theorem Xc4 (s:SC)(R:RWs)(m:Ja1):(toB s R m).length=8+3*s.nt:=by
 simp only [toB,List.length_cons,Jm6];omega
theorem Vx6 {m:Ja1}{s:SC}{R:RWs}(hR:ScR 138 143 285 146 150 m s R):ScR 140 119 223 148 155 (m++toB s R m) s (toR s m.length):=by
 have hq:∀ k,(m++toB s R m)[m.length+k]?=(toB s R m)[k]?:=fun k=>by rw [List.getElem?_append_right (by omega)];congr 1;omega
 refine ⟨⟨.grow,5,?_⟩,⟨.grow,2,?_⟩,fun i hi=>⟨.grow,4,?_⟩,⟨.grow,4,?_⟩,⟨.grow,13,?_⟩,hR.np,hR.nt,hR.nj,hR.nx,hR.nk⟩
 ·show (m++toB s R m)[m.length+4]?=_;rw [hq];rfl
 ·show (m++toB s R m)[m.length+5]?=_;rw [hq];rfl
 ·show (m++toB s R m)[m.length+(3*i+9)]?=_
  rw [hq]
  show (tkB s R m.length s.nt)[3*i+1]?=_
  exact Qx4 s R m.length hi
 ·show (m++toB s R m)[m.length+6]?=_;rw [hq];rfl
 show (m++toB s R m)[m.length+7]?=_;rw [hq];rfl
theorem Qd1 {F:Nat->List CV}{p:CV->Bool}:∀ (n:Nat),(∀ i,i<n->(F i).all p=true)->(Jb2 n F).all p=true
 | 0,_=>rfl
 | n+1,h=>by
  show (Jb2 n F++F n).all p=true
  rw [List.all_append,Qd1 n fun i hi=>h i (by omega),h n (by omega)];rfl
theorem Qx3 {s:SC}{R:RWs}{L N:Nat}:∀ n,(∀ i,i<n->R.k i<N)->L+(3*n+8)<=N->MWf N (tkB s R L n)
 | 0,_,_=>Jb3
 | n+1,h,hN=>by
  have ih:=Qx3 (s:=s) (R:=R) (L:=L) n (fun i hi=>h i (by omega)) (by omega)
  show MWf N (tkB s R L n++_)
  have h1:=h n (by omega)
  refine MWf.app ih (Ja0 ?_ (Ja0 (Jb8 _ (fun _=>rfl) _) (Ja0 ?_ Jb3)))
  ·simp [tC,CV.below];omega
  simp [tC,toR,CV.below];omega
theorem Vx7 {m:Ja1}{s:SC}{R:RWs}(hR:ScR 138 143 285 146 150 m s R)(hw:MWf m.length m):MWf (m++toB s R m).length (m++toB s R m):=by
 have hl:=Xc4 s R m
 have hb:=hR.bel (m++toB s R m).length (by simp)
 have hN:(m++toB s R m).length=m.length+(8+3*s.nt):=by rw [List.length_append,hl]
 refine MWf.app (hw.grow (by simp)) ?_
 rw [hN] at hb ⊢
 unfold toB
 refine Ja0 hb (Ja0 ?_ (Ja0 rfl (Ja0 ?_ (Ja0 (Jb8 _ (fun _=>rfl) _) (Ja0 ?_ (Ja0 (Jb8 _ (fun _=>rfl) _) (Ja0 (Jb8 _ (fun _=>rfl) _) ?_)))))))
 ·simp [scC,hdC,tlC,c3C,toR,CV.below];omega
 ·simp [CV.below];omega
 ·refine Qd1 _ fun i hi=>?_
  simp [tC,toR,CV.below];omega
 refine Qx3 _ (fun i hi=>?_) (by omega)
 obtain ⟨_,_,q⟩:=hR.hk i hi
 have:=Ja7 q
 omega
noncomputable def pzV (v:VW)(p:V):Int:=Jd3 (Je2 (Ja8 p v.e) v.f) v.wd
noncomputable def pxV (v:VW)(p:V):Int:=Ja3 (Je4 (Jc7 (Jd3 (Je4 (Je2 (Ja8 p v.e) v.r) (pzV v p)) (ofI v.h)) (ofI v.w)) 131072) / 65536
noncomputable def pyV (v:VW)(p:V):Int:=Ja3 (Je4 (Je1 (ofI v.h) (Jd3 (Je4 (Je2 (Ja8 p v.e) v.u) (pzV v p)) (ofI v.h))) 131072) / 65536
noncomputable def Kq8 (v:VW)(p:V):Option (Int × Int):=if pzV v p<=0 then none else if pxV v p<0 then none else if v.w<=pxV v p then none else if pyV v p<0 then none else if v.h<=pyV v p then none else some (pxV v p,pyV v p)
def Vk1:Option (Int × Int)->Int × Int × Bool
 | none=>(0,0,false)
 | some (x,y)=>(x,y,true)
theorem Vc6 {v:VW}{p:V}{x y:Int}(h:Kq8 v p=some (x,y)):0<=x/\x<v.w/\0<=y/\y<v.h:=by
 unfold Kq8 at h
 split at h
 ·cases h
 split at h
 ·cases h
 split at h
 ·cases h
 split at h
 ·cases h
 split at h
 ·cases h
 injection h with h
 injection h with h1 h2
 omega
theorem Xx3 (v:VW)(p:V)(m:Ja1):Ctr Tryz.prog 171 [.agg (vwC v),.agg (c3C p)] m (.tup [(false,[.int .i64 (Vk1 (Kq8 v p)).1]),(false,[.int .i64 (Vk1 (Kq8 v p)).2.1]),(false,[.bool (Vk1 (Kq8 v p)).2.2])]) m:=by
 have hE:PixE v p (pzV v p) (Jd3 (Je4 (Je2 (Ja8 p v.e) v.r) (pzV v p)) (ofI v.h)) (Jd3 (Je4 (Je2 (Ja8 p v.e) v.u) (pzV v p)) (ofI v.h)) (pxV v p) (pyV v p):=⟨rfl,rfl,rfl,rfl,rfl⟩
 unfold Kq8
 by_cases g0:pzV v p<=0
 ·rw [if_pos g0];exact Xs5 v p _ _ _ _ _ m hE g0
 rw [if_neg g0]
 by_cases g1:pxV v p<0
 ·rw [if_pos g1];exact Xt0 v p _ _ _ _ _ m hE g0 g1
 rw [if_neg g1]
 by_cases g2:v.w<=pxV v p
 ·rw [if_pos g2];exact Xs9 v p _ _ _ _ _ m hE g0 g1 g2
 rw [if_neg g2]
 by_cases g3:pyV v p<0
 ·rw [if_pos g3];exact Xs8 v p _ _ _ _ _ m hE g0 g1 g2 g3
 rw [if_neg g3]
 by_cases g4:v.h<=pyV v p
 ·rw [if_pos g4];exact Xs7 v p _ _ _ _ _ m hE g0 g1 g2 g3 g4
 rw [if_neg g4];exact Xs6 v p _ _ _ _ _ m hE g0 g1 g2 g3 g4
theorem Vy6 (v:VW)(p:V)(m:Ja1):Ctr Tryz.prog 172 [.agg (vwC v),.agg (c3C p)] m (.tup [(false,[.int .i64 (Vk1 (Kq8 v p)).1]),(false,[.int .i64 (Vk1 (Kq8 v p)).2.1]),(false,[.bool (Vk1 (Kq8 v p)).2.2])]) m:=by
 have hE:PixE v p (pzV v p) (Jd3 (Je4 (Je2 (Ja8 p v.e) v.r) (pzV v p)) (ofI v.h)) (Jd3 (Je4 (Je2 (Ja8 p v.e) v.u) (pzV v p)) (ofI v.h)) (pxV v p) (pyV v p):=⟨rfl,rfl,rfl,rfl,rfl⟩
 unfold Kq8
 by_cases g0:pzV v p<=0
 ·rw [if_pos g0];exact Xd4 v p _ _ _ _ _ m hE g0
 rw [if_neg g0]
 by_cases g1:pxV v p<0
 ·rw [if_pos g1];exact Xd9 v p _ _ _ _ _ m hE g0 g1
 rw [if_neg g1]
 by_cases g2:v.w<=pxV v p
 ·rw [if_pos g2];exact Xd8 v p _ _ _ _ _ m hE g0 g1 g2
 rw [if_neg g2]
 by_cases g3:pyV v p<0
 ·rw [if_pos g3];exact Xd7 v p _ _ _ _ _ m hE g0 g1 g2 g3
 rw [if_neg g3]
 by_cases g4:v.h<=pyV v p
 ·rw [if_pos g4];exact Xd6 v p _ _ _ _ _ m hE g0 g1 g2 g3 g4
 rw [if_neg g4];exact Xd5 v p _ _ _ _ _ m hE g0 g1 g2 g3 g4
noncomputable def Xn7 (s:SC)(f:Int)(t:SN)(i:Nat):V:=Ja8 t.po (Ja8 ((atM (mvS s f i) t.pt).P 0) ((plS s ((f - 1)*65536) i).P 0))
def Ko1 (w:Int):Option (Int × Int)->Int
 | none=>-1
 | some (x,y)=>y*w+x
noncomputable def Ya0 (s:SC)(f:Int)(t:SN):Int:=if f=0\/t.sh<0 then -1 else Ko1 s.w (Kq8 (Jg7 s ((f - 1)*65536)) (Xn7 s f t t.sh.toNat))
theorem Vt4 (c:CV)(t:SN)(m:Ja1):Ctr Tryz.prog 86 [.one .nilp,.one c,.agg (snC t)] m (.one (.int .i64 (-1))) m:=by
 have hv:=Jx3 t
 exact Ctr.f Tryz.func86 [.tmp 6] 62 hv Tru
theorem Vt5 (q:Nat)(c:CV)(t:SN)(m:Ja1)(hs:t.sh<0):Ctr Tryz.prog 86 [.one (.ptr q 0 0),.one c,.agg (snC t)] m (.one (.int .i64 (-1))) m:=by
 have hv:=Jx3 t
 have U1:=ca2 hv hs
 exact Ctr.f Tryz.func86 [.tmp 6] 62 U1 Tru
theorem Xz9 (s:SC)(R:RWs)(f:Int)(E:SE)(a b:VW)(p q:Nat)(v:VW)(x9:Int)(rr rv:Nat)(t:SN)(i:Nat)(m:Ja1)(hS:SetAt m p s R f E a b)(hq:m[q]?=some ⟨.fix,216,0,0,vwC v++[.sl rr rv 0 s.nx]⟩)(hr:∃ k ez,m[rr]?=some ⟨k,84,rv,ez,Jb2 s.nx (plF s x9)⟩)(hi:i<s.nx)(hsh:t.sh=(i:Int))(hvw:v.w=s.w)(hvh:v.h=s.h):Ctr Tryz.prog 86 [.one (.ptr q 0 0),.one (.ptr p 0 0),.agg (snC t)] m (.one (.int .i64 (Ko1 s.w (Kq8 v (Ja8 t.po (Ja8 ((atM (mvS s f i) t.pt).P 0) ((plS s x9 i).P 0))))))) m:=by
 refine Ctr.en Tryz.func86 [.tmp 6] 62 fun hwf Q hQ=>?_
 have hv:=Jx3 t
 obtain ⟨kr,er,hr⟩:=hr
 have lq:=Ja7 hq
 have lr:=Ja7 hr
 have hps:=hS.hp
 have lps:=Ja7 hps
 have hG:=hS.g
 have hgw:=hG.w
 have hgh:=hG.h
 have pl:(Jb2 s.nx (plF s x9)).length=s.nx*12:=Ja6 (w:=12) (F:=plF s x9) (fun _=>rfl) _
 have s0:(0:Int)<=(i:Int):=by omega
 have s1:¬(i:Int)<0:=by omega
 have s2:(i:Int)<(s.nx:Int):=by omega
 have s3:i*12+12<=s.nx*12:=by omega
 have s3b:i*12+2+3<=s.nx*12:=by omega
 have s4:=Jb7 (w:=12) (F:=plF s x9) (fun _=>rfl) hi
 have s5:plF s x9 i=[.int .i64 (plS s x9 i).kind,.int .i64 (plS s x9 i).paint,.int .i64 ((plS s x9 i).P 0 0),.int .i64 ((plS s x9 i).P 0 1),.int .i64 ((plS s x9 i).P 0 2),.int .i64 ((plS s x9 i).P 1 0),.int .i64 ((plS s x9 i).P 1 1),.int .i64 ((plS s x9 i).P 1 2),.int .i64 ((plS s x9 i).P 2 0),.int .i64 ((plS s x9 i).P 2 1),.int .i64 ((plS s x9 i).P 2 2),.int .i64 (plS s x9 i).r]:=rfl
 have s6:List.take 3 (List.drop (i*12+2) (Jb2 s.nx (plF s x9)))=[.int .i64 ((plS s x9 i).P 0 0),.int .i64 ((plS s x9 i).P 0 1),.int .i64 ((plS s x9 i).P 0 2)]:=by
   have e:(Jb2 s.nx (plF s x9)).drop (i*12+2)=((Jb2 s.nx (plF s x9)).drop (i*12)).drop 2:=by rw [List.drop_drop]
   have q:=congrArg (fun l=>List.take 3 (List.drop 2 l)) (s4.trans s5)
   rw [List.drop_take,List.take_take] at q
   rw [e];exact q
 obtain ⟨P9,hP9⟩:∃ P,atM (mvS s f i) t.pt=P:=⟨_,rfl⟩
 have hPc:=Jg4 P9
 obtain ⟨M9,hM9⟩:∃ z,Ja8 (P9.P 0) ((plS s x9 i).P 0)=z:=⟨_,rfl⟩
 obtain ⟨Q9,hQ9⟩:∃ z,Ja8 t.po M9=z:=⟨_,rfl⟩
 rw [hP9,hM9,hQ9] at hQ
 have U2:=ca4 hv hq (Ja4 hq) (ca4 hr (Ja4 hr) hps (ca4 (Ja4 hps) @Qq6 @Jg0 (ca4 @Jf6 @Jf9 @Ja5 (ca4 @Jn5 hsh s0 (ca4 s1 s2 s3 (ca4 s3b s5 s6 (ca3 pl hi hPc)))))))
 refine AW.w 6 U2 Tru ?_
 have q_1:=fun M hS=>Vp8 s R f E a b p i t.pt M hS hi
 rw [hP9,hPc] at q_1
 have q_2:=Jh4 (P9.P 0) ((plS s x9 i).P 0)
 rw [hM9] at q_2
 refine AW.d [.val,.val,.rd 0,.val,.rd 0,.ext,.val,.val,.val,.val,.val,.rd 0,.val,.rd 0,.val,.val,.val,.rd 0,.ext,.fl,.wr] fol U2 (ca2 (q_1 _ (hS.app _)) q_2) ?_
 refine AW.q fun K J0=>?_
 rcases hO:Kq8 v Q9 with _|⟨x8,y8⟩
 ·rw [hO] at hQ
  have o1:Ko1 s.w none=-1:=rfl
  rw [o1] at hQ
  have r1:Vk1 none=(0,0,false):=rfl
  have q_3:=Jh4 t.po M9
  rw [hQ9] at q_3
  have q_4:=Xx3 v Q9
  rw [hO] at q_4
  have U3:=ca2 U2 r1
  exact AW.fd [[.val,.val,.val,.rd 0,.val,.rd 0,.rd 0,.ext,.ext,.val,.val,.val,.val,.val,.val,.val]] U3 (ca2 q_3 q_4)
 have hb8:=Vc6 hO
 rw [hvw,hvh] at hb8
 have m1:0<=y8*s.w:=Int.mul_nonneg (by omega) (by omega)
 have m2:y8*s.w<=64*64:=Int.mul_le_mul (by omega) (by omega) (by omega) (by omega)
 obtain ⟨yw,hyw⟩:∃ z,y8*s.w=z:=⟨_,rfl⟩
 rw [hyw] at m1 m2
 have w1:IntKind.i64.wrap yw=yw:=wi (by omega)
 have w2:IntKind.i64.wrap (yw+x8)=yw+x8:=wi (by omega)
 rw [hO] at hQ
 have o1:Ko1 s.w (some (x8,y8))=yw+x8:=by rw [<-hyw];rfl
 rw [o1] at hQ
 have r1:Vk1 (some (x8,y8))=(x8,y8,true):=rfl
 have q_5:=Jh4 t.po M9
 rw [hQ9] at q_5
 have q_6:=Xx3 v Q9
 rw [hO] at q_6
 have U4:=ca4 U2 r1 hyw (ca2 w1 w2)
 exact AW.fd [[.val,.val,.val,.rd 0,.val,.rd 0,.rd 0,.ext,.ext,.val,.val,.val,.val,.val,.val,.val]] U4 (ca2 q_5 q_6)
theorem Xh2 (s:SC)(R:RWs)(f:Int)(t:SN)(m:Ja1)(hR:ScR 138 143 285 146 150 m s R)(hf:f=0):Ctr Tryz.prog 89 [.agg (scC s R),.one (.int .i64 f),.agg (snC t)] m (.one (.int .i64 (-1))) m:=by
 have hv:=Jx3 t
 subst hf
 have U1:=ca4 hv @Jg0 @Jf6 (ca2 @Jf9 @Ja5)
 exact Ctr.f Tryz.func89 [.tmp 6] 67 U1 Tru
theorem Xh3 (s:SC)(R:RWs)(f:Int)(t:SN)(m:Ja1)(hR:ScR 138 143 285 146 150 m s R)(hf:¬f=0)(hs:t.sh<0):Ctr Tryz.prog 89 [.agg (scC s R),.one (.int .i64 f),.agg (snC t)] m (.one (.int .i64 (-1))) m:=by
 have hv:=Jx3 t
 have f0:(f ==0)=false:=by simpa using hf
 have U2:=ca4 hv f0 hs (ca4 @Jg0 @Jf6 @Jf9 @Ja5)
 exact Ctr.f Tryz.func89 [.tmp 6] 67 U2 Tru
theorem Xh5 (s:SC)(R:RWs)(f:Int)(t:SN)(i:Nat)(m:Ja1)(hR:ScR 138 143 285 146 150 m s R)(hG:GoS s)(hT:∀ i,i<s.nt->TrS s i)(hJ:∀ i,i<s.nj->JoR s i)(hX:∀ i,i<s.nx->-1<=s.xj i/\s.xj i<(s.nj:Int))(hE:s.ey<(s.nt:Int))(hL:s.lk<(s.nt:Int))(hf:1<=f/\f<=1000000)(hi:i<s.nx)(hsh:t.sh=(i:Int)):Ctr Tryz.prog 89 [.agg (scC s R),.one (.int .i64 f),.agg (snC t)] m (.one (.int .i64 (Ko1 s.w (Kq8 (Jg7 s ((f - 1)*65536)) (Ja8 t.po (Ja8 ((atM (mvS s f i) t.pt).P 0) ((plS s ((f - 1)*65536) i).P 0))))))) m:=by
 refine Ctr.en Tryz.func89 [.tmp 6] 67 fun hwf Q hQ=>?_
 have hv:=Jx3 t
 have hgw:=hG.w
 have hgh:=hG.h
 have hsh9:=hG.sh
 have hgx:=hG.nx
 have f0:(f ==0)=false:=by rw [beq_eq_false_iff_ne];omega
 have w3:IntKind.i64.wrap (f - 1)=f - 1:=wi (by omega)
 have w4:IntKind.i64.wrap ((f - 1)*65536)=(f - 1)*65536:=wi (by omega)
 obtain ⟨x9,hx9⟩:∃ z,(f - 1)*65536=z:=⟨_,rfl⟩
 have sc:(Jb2 s.nx (mvF s f)).length=s.nx*24:=Ja6 (w:=24) (F:=mvF s f) (fun _=>rfl) _
 have s0:(0:Int)<=(i:Int):=by omega
 have s1:¬(i:Int)<0:=by omega
 have s2:(i:Int)<(s.nx:Int):=by omega
 have s3:i*24+24<=s.nx*24:=by omega
 have s4:=Jb7 (w:=24) (F:=mvF s f) (fun _=>rfl) hi
 have s5:mvF s f i=[.int .i64 (mvS s f i).A.kind,.int .i64 (mvS s f i).A.paint,.int .i64 ((mvS s f i).A.P 0 0),.int .i64 ((mvS s f i).A.P 0 1),.int .i64 ((mvS s f i).A.P 0 2),.int .i64 ((mvS s f i).A.P 1 0),.int .i64 ((mvS s f i).A.P 1 1),.int .i64 ((mvS s f i).A.P 1 2),.int .i64 ((mvS s f i).A.P 2 0),.int .i64 ((mvS s f i).A.P 2 1),.int .i64 ((mvS s f i).A.P 2 2),.int .i64 (mvS s f i).A.r,.int .i64 (mvS s f i).B.kind,.int .i64 (mvS s f i).B.paint,.int .i64 ((mvS s f i).B.P 0 0),.int .i64 ((mvS s f i).B.P 0 1),.int .i64 ((mvS s f i).B.P 0 2),.int .i64 ((mvS s f i).B.P 1 0),.int .i64 ((mvS s f i).B.P 1 1),.int .i64 ((mvS s f i).B.P 1 2),.int .i64 ((mvS s f i).B.P 2 0),.int .i64 ((mvS s f i).B.P 2 1),.int .i64 ((mvS s f i).B.P 2 2),.int .i64 (mvS s f i).B.r]:=rfl
 obtain ⟨P9,hP9⟩:∃ P,atM (mvS s f i) t.pt=P:=⟨_,rfl⟩
 have hPc:=Jg4 P9
 rw [hx9] at hQ w4
 obtain ⟨W9,hW9⟩:∃ P,plS s x9 i=P:=⟨_,rfl⟩
 have hWc:=Jg4 W9
 obtain ⟨v9,hv9⟩:∃ v,Jg7 s x9=v:=⟨_,rfl⟩
 have hvw:v9.w=s.w:=by rw [<-hv9];rfl
 have hvh:v9.h=s.h:=by rw [<-hv9];rfl
 obtain ⟨M9,hM9⟩:∃ z,Ja8 (P9.P 0) (W9.P 0)=z:=⟨_,rfl⟩
 obtain ⟨Q9,hQ9⟩:∃ z,Ja8 t.po M9=z:=⟨_,rfl⟩
 rw [hP9,hW9,hv9,hM9,hQ9] at hQ
 have U3:=ca4 hv @Jg0 @Jf6 (ca4 @Jf9 @Ja5 @Jn5 (ca4 hsh f0 w3 (ca4 w4 hx9 s0 (ca4 s1 s2 s3 (ca4 s4 s5 sc (ca3 hi hPc hWc))))))
 refine AW.w 7 U3 Tru ?_
 have q_1:=Qk1 (mvS s f i) t.pt
 rw [hP9,hPc] at q_1
 refine AW.d [.rd 0,.val,.ext,.val,.rd 0,.val,.rd 1,.val,.rd 0,.ext,.fl,.wr] fol U3 (ca2 (Qj8 s R f _ (hR.app _) hT hJ hX ⟨by omega,by omega⟩ hsh9 (by omega)) q_1) ?_
 have q_2:=fun M hR=>Ku8 s R x9 i M hR hT hJ hi (hX i hi)
 rw [show plC (plS s x9 i)=plC W9 by rw [hW9],hWc] at q_2
 have q_3:=Je8 (P9.P 0) (W9.P 0)
 rw [hM9] at q_3
 refine AW.c 2 U3 (ca2 (q_2 _ (hR.app _)) q_3) ?_
 refine AW.q fun K J0=>?_
 rcases hO:Kq8 v9 Q9 with _|⟨x8,y8⟩
 ·rw [hO] at hQ
  have o1:Ko1 s.w none=-1:=rfl
  rw [o1] at hQ
  have r1:Vk1 none=(0,0,false):=rfl
  have q_4:=fun M hR=>Ku1 s R x9 M hR hT hE hL
  rw [hv9] at q_4
  have q_5:=Je8 t.po M9
  rw [hQ9] at q_5
  have q_6:=Vy6 v9 Q9
  rw [hO] at q_6
  have U4:=ca2 U3 r1
  exact AW.fd [[.rd 0,.val,.ext,.val,.rd 0,.rd 0,.ext,.ext,.val,.val,.val,.val,.val,.val,.val]] U4 (ca3 (q_4 _ (hR.app _)) q_5 q_6)
 have hb8:=Vc6 hO
 rw [hvw,hvh] at hb8
 have m1:0<=y8*s.w:=Int.mul_nonneg (by omega) (by omega)
 have m2:y8*s.w<=64*64:=Int.mul_le_mul (by omega) (by omega) (by omega) (by omega)
 obtain ⟨yw,hyw⟩:∃ z,y8*s.w=z:=⟨_,rfl⟩
 rw [hyw] at m1 m2
 have w1:IntKind.i64.wrap yw=yw:=wi (by omega)
 have w2:IntKind.i64.wrap (yw+x8)=yw+x8:=wi (by omega)
 rw [hO] at hQ
 have o1:Ko1 s.w (some (x8,y8))=yw+x8:=by rw [<-hyw];rfl
 rw [o1] at hQ
 have r1:Vk1 (some (x8,y8))=(x8,y8,true):=rfl
 have q_7:=fun M hR=>Ku1 s R x9 M hR hT hE hL
 rw [hv9] at q_7
 have q_8:=Je8 t.po M9
 rw [hQ9] at q_8
 have q_9:=Vy6 v9 Q9
 rw [hO] at q_9
 have U5:=ca4 U3 r1 hyw (ca2 w1 w2)
 exact AW.fd [[.rd 0,.val,.ext,.val,.rd 0,.rd 0,.ext,.ext,.val,.val,.val,.val,.val,.val,.val]] U5 (ca3 (q_7 _ (hR.app _)) q_8 q_9)
def dl:Nat->(Nat->Nat->Int)->List CV
 | 0,_=>[]
 | n+1,G=>dl n G++[.int .i64 (G n 0),.int .i64 (G n 1),.int .i64 (G n 2)]
theorem Jc3:∀ (n:Nat) (G:Nat->Nat->Int),(dl n G).length=n*3
 | 0,_=>rfl
 | n+1,G=>by simp only [dl,List.length_append,Jc3 n G,List.length_cons,List.length_nil];omega
theorem Qo9:∀ {n:Nat} {G:Nat->Nat->Int} {i k:Nat},i<n->k<3->(dl n G)[i*3+k]?=some (.int .i64 (G i k))
 | n+1,G,i,k,hi,hk=>by
  simp only [dl]
  rcases Nat.lt_or_ge i n with h|h
  ·rw [List.getElem?_append_left (by rw [Jc3];omega)];exact Qo9 h hk
  have e:i=n:=by omega
  subst e
  rw [List.getElem?_append_right (by rw [Jc3];omega),Jc3,show i*3+k - i*3=k by omega]
  match k,hk with
  | 0,_=>rfl
  | 1,_=>rfl
  | 2,_=>rfl
theorem Kf7 {n:Nat}{G:Nat->Nat->Int}{i:Nat}(hi:i<n):(dl n G)[i*3]?=some (.int .i64 (G i 0)):=Qo9 (k:=0) hi (by omega)
theorem Kf6 {n:Nat}{G:Nat->Nat->Int}{i:Nat}(hi:i<n):(dl n G)[i*3+1]?=some (.int .i64 (G i 1)):=Qo9 hi (by omega)
theorem Kf5 {n:Nat}{G:Nat->Nat->Int}{i:Nat}(hi:i<n):(dl n G)[i*3+2]?=some (.int .i64 (G i 2)):=Qo9 hi (by omega)
theorem Je5:∀ (L n:Nat) (G:Nat->Nat->Int),(dl n G).all (CV.below L)=true
 | _,0,_=>rfl
 | L,n+1,G=>by simp only [dl,List.all_append,Je5 L n G,List.all_cons,List.all_nil,CV.below];rfl
theorem Qg0 {n:Nat}{f:Nat->Int}:il n f++[.int .i64 (f n)]=il (n+1) f:=rfl
theorem Kx4 {n:Nat}{G:Nat->Nat->Int}:dl n G++[.int .i64 (G n 0),.int .i64 (G n 1),.int .i64 (G n 2)]=dl (n+1) G:=rfl
theorem Xa7 (G:Nat->Nat->Int):∀ n,dl n G=Jb2 n (fun i=>[.int .i64 (G i 0),.int .i64 (G i 1),.int .i64 (G i 2)])
 | 0=>rfl
 | n+1=>by show dl n G++_=Jb2 n _++_;rw [Xa7 G n]
theorem Qt9 {G:Nat->Nat->Int}{i n:Nat}(h:i<n):List.take 3 (List.drop (i*3) (dl n G))=[.int .i64 (G i 0),.int .i64 (G i 1),.int .i64 (G i 2)]:=by
 rw [Xa7];exact Jb7 (w:=3) (fun _=>rfl) h
theorem Xz7 (W H:Int)(m:Ja1)(h1:1<=W/\W<=64)(h2:1<=H/\H<=64):Ctr Tryz.prog 173 [.agg [.int .i64 W,.int .i64 H]] m (.one (.bool true)) m:=by
 have p1:=h1.1
 have p2:=h1.2
 have p3:=h2.1
 have p4:=h2.2
 have U1:=ca4 p1 p2 p3 p4
 exact Ctr.f Tryz.func173 [.tmp 2] 21 U1 Tru
theorem Qn8 (W H:Int)(n:Nat)(m:Ja1)(hn:IntKind.i64.wrap (W*H)=(n:Int)):Ctr Tryz.prog 85 [.agg [.int .i64 W,.int .i64 H]] m (.one (.int .i64 (n:Int))) m:=by
 exact Ctr.f Tryz.func85 [.tmp 2] 8 hn Tru
theorem Vg0 (W H:Int)(n:Nat)(m:Ja1)(h1:1<=W/\W<=64)(h2:1<=H/\H<=64)(hn:IntKind.i64.wrap (W*H)=(n:Int))(r v:Nat):Ctr Tryz.prog 90 [.agg [.int .i64 W,.int .i64 H,.sl r v 0 n]] m (.one (.bool true)) m:=by
 refine Ctr.en Tryz.func90 [.tmp 2] 15 fun hwf Q hQ=>?_
 refine AW.sr 1 fun K J0=>?_
 simp only [push_cast,simprocAttr,beq_self_eq_true]
 apply J0
 refine AW.q fun K J0=>?_
 refine AW.draw [.val,.rd 0,.ext,.val,.val,.rd 1,.val,.val,.rd 1,.ext,.val,.val,.val] fol (by decide) (by kernel_rfl) ?_
 simp only [push_cast,simprocAttr,beq_self_eq_true]
 refine DCall.z (Xz7 W H _ h1 h2) ?_
 simp only [push_cast,simprocAttr,beq_self_eq_true]
 refine DCall.z (Qn8 W H n _ hn) ?_
 simp only [push_cast,simprocAttr,beq_self_eq_true]
 exact AW.f Tru Tru
theorem Vu4 (W H:Int)(n:Nat)(m:Ja1)(h1:1<=W/\W<=64)(h2:1<=H/\H<=64)(hn:IntKind.i64.wrap (W*H)=(n:Int))(rL rD rN rB rS rF vL vD vN vB vS vF:Nat)(fS fF:Nat->Int)(hS:∃ k ez,m[rS]?=some ⟨k,3,vS,ez,il n fS⟩)(hF:∃ k ez,m[rF]?=some ⟨k,3,vF,ez,il n fF⟩)(hall:∀ i,i<n->¬fS i < -1/\¬128<=fS i/\¬fF i < -1/\¬(n:Int)<=fF i)(hn9:n<=1048576):Ctr Tryz.prog 31 [.agg [.int .i64 W,.int .i64 H,.sl rL vL 0 n,.sl rD vD 0 n,.sl rN vN 0 n,.sl rB vB 0 n,.sl rS vS 0 n,.sl rF vF 0 n]] m (.one (.bool true)) m:=by
 refine Ctr.en Tryz.func31 [.tmp 2] 82 fun hwf Q hQ=>?_
 obtain ⟨kS,eS,hSb⟩:=hS
 obtain ⟨kF,eF,hFb⟩:=hF
 have lS:=Ja7 hSb
 have lF:=Ja7 hFb
 refine AW.sr 1 fun K J0=>?_
 have U2:=ca4 hSb (Ja4 hSb) hFb (Ja4 hFb)
 simp only [push_cast,simprocAttr,bne_self_eq_false,U2]
 apply J0
 refine AW.q fun K J0=>?_
 refine AW.sr 1 fun K J1=>?_
 simp only [push_cast,simprocAttr,bne_self_eq_false,U2]
 refine CThen.by (Vg0 W H n _ h1 h2 hn rL vL) ?_
 simp only [push_cast,simprocAttr,bne_self_eq_false,U2]
 refine AW.w 4 Tru Tru ?_
 refine AW.sr 1 fun K J0=>?_
 simp only [push_cast,simprocAttr,bne_self_eq_false,U2]
 refine CThen.by (Qn8 W H n _ hn) ?_
 simp only [push_cast,simprocAttr,bne_self_eq_false,U2]
 apply J0
 refine AW.q fun K J0=>?_
 refine AW.sr 1 fun K J1=>?_
 simp only [push_cast,simprocAttr,bne_self_eq_false,U2]
 refine AW.w 4 Tru Tru ?_
 refine AW.q fun K J0=>?_
 refine AW.sr 1 fun K J1=>?_
 simp only [push_cast,simprocAttr,bne_self_eq_false,U2]
 refine AW.w 2 Tru Tru ?_
 refine AW.loopK [1,3,46] (fun i=>i<=n) (fun i=>[(47,.one (.int .i64 (i:Int)))]) (fun i=>[]) (fun i=>n - i) 0 (by omega) ?_ ?_ fun i hi4=>?_
 · first|rfl|(simp only [KS,simprocAttr,Int.natCast_zero]<;>repeat' (first|rfl|apply And.intro))
 · rfl
 try simp only [Ja9,Ja2,push_cast,simprocAttr,bne_self_eq_false,U2]
 refine AW.sr 1 fun K J1=>?_
 simp only [push_cast,simprocAttr,bne_self_eq_false,U2]
 refine AW.w 2 Tru Tru fun K J1=>?_
 refine AW.cond rfl (fun h48=>?_) (fun h48=>?_)
 ·have hlt:i<n:=by have:=of_decide_eq_true h48;omega
  have c1:(0:Int)<=(i:Int):=by omega
  have c2:(i:Int)<(n:Int):=by omega
  have gS:=Kn8 (f:=fS) hlt
  have gF:=Kn8 (f:=fF) hlt
  obtain ⟨s1,s2,s3,s4⟩:=hall i hlt
  refine AW.w 4 Tru Tru fun K J1=>?_
  refine AW.sr 2 fun K J2=>?_
  have U3:=ca4 U2 c1 c2 (ca4 gS gF s1 (ca3 s2 s3 s4))
  simp only [push_cast,simprocAttr,bne_self_eq_false,U3]
  refine AW.w 4 Tru Tru ?_
  refine AW.rg ?_
  simp only [push_cast,simprocAttr,bne_self_eq_false,U3]
  apply Jk2
  have hwi:IntKind.i64.wrap ((i:Int)+1)=(i:Int)+1:=wi (by omega)
  refine ⟨i+1,by omega,by omega,?_⟩
  try simp only [Ja9,Ja2,push_cast,simprocAttr,bne_self_eq_false,U3,hwi]
  exact Weak.same (by simp only [KS,simprocAttr,hwi]) (by first|rfl|simp only [KS,simprocAttr,hwi])
 have hin:n=i:=by have:=of_decide_eq_false h48;omega
 subst hin
 refine AW.w 2 Tru Tru ?_
 refine AW.sr 1 fun K J0=>?_
 simp only [push_cast,simprocAttr,bne_self_eq_false,U2]
 exact AW.f Tru Tru
theorem Qg3 (W H:Int)(r v n:Nat)(G:Nat->Nat->Int)(m:Ja1)(hp:∃ k ez,m[r]?=some ⟨k,42,v,ez,dl n G⟩)(hn:n<=1048576):Ctr Tryz.prog 88 [.agg [.int .i64 W,.int .i64 H,.sl r v 0 n]] m (.agg [.int .i64 W,.int .i64 H,.sl m.length 0 0 n]) (m++[⟨.grow,24,0,3,dl n G⟩]):=by
 refine Ctr.en Tryz.func88 [.cell 2 108] 29 fun hwf Q hQ=>?_
 obtain ⟨k0,ez,hb⟩:=hp
 have hr:=Ja7 hb
 have hlt0:∀ k,¬m.length+k<m.length:=fun k=>by omega
 have U4:=ca4 hb (Ja4 hb) @Jc3 @Ja5
 refine AW.w 5 U4 Tru fun K J0=>?_
 refine AW.nilCell 24 3 (m.length+2) 2 (by simp only [push_cast,simprocAttr,U4];first|done|rfl) (by intro e;cases e) rfl ?_
 try simp only [push_cast,simprocAttr,U4]
 refine AW.loopK [2,3,14,15] (fun i=>i<=n) (fun i=>[(16,.one (.int .i64 (i:Int)))]) (fun i=>[(m.length+2,⟨.fix,108,0,0,[.int .i64 W,.int .i64 H,.sl (m.length+3) i 0 i]⟩),(m.length+3,⟨.grow,24,i,3,dl i G⟩)]) (fun i=>n - i) 0 (by omega) ?_ ?_ fun i hi2=>?_
 · first|rfl|(simp only [KS,simprocAttr,dl,Int.natCast_zero]<;>repeat' (first|rfl|apply And.intro))
 · first|rfl|(simp only [Ja2,push_cast,simprocAttr,U4,dl,Int.natCast_zero]<;>rfl)
 try simp only [Ja9,Ja2,push_cast,simprocAttr,U4]
 refine AW.w 2 U4 Tru fun K J1=>?_
 refine AW.cond rfl (fun h17=>?_) (fun h17=>?_)
 ·have hlt:i<n:=by have:=of_decide_eq_true h17;omega
  have c1:(0:Int)<=(i:Int):=by omega
  have c2:(i:Int)<(n:Int):=by omega
  have c3:i*3+3<=n*3:=by omega
  have g0:=Kf7 (G:=G) hlt
  have g1:=Kf6 (G:=G) hlt
  have g2:=Kf5 (G:=G) hlt
  have gt:=Qt9 (G:=G) hlt
  have gi:=Jc3 i G
  have q1:i+1<=140737488355328:=by omega
  have q2:(i+1)*24<=140737488355328:=by omega
  refine AW.w 4 Tru Tru fun K J1=>?_
  have U5:=ca4 U4 c1 c2 (ca4 c3 g0 g1 (ca4 g2 gt gi (ca2 q1 q2)))
  refine AW.wd [[.val,.rd 0,.rd 0,.ext,.ext,.wr,.val,.wr]] 4 U5 (Ya4 (G i)) ?_
  have hwi:IntKind.i64.wrap ((i:Int)+1)=(i:Int)+1:=wi (by omega)
  exact Wj (i+1) U5 (ca2 hwi @Kx4) @Je5
 have hin:n=i:=by have:=of_decide_eq_false h17;omega
 subst hin
 refine AW.w 4 U4 Tru ?_
 refine hQ _ _ _ ?_
 refine RetP.pick [(m.length+3,n)] (Or.inr rfl) ?_ ?_ ?_ hwf ?_
 · simp only [Je0,Jb1,Jb9,AV.tv,push_cast,simprocAttr]
   simp [Kg3,Km1,Ka4,Jt4,Jh0,hlt0]
 · simp only [Jm8,push_cast,simprocAttr]
 · simp [Jc2]
 repeat (first|exact Jb3|(refine Ja0 ?_ ?_;· first|exact Je5 _ _ _|exact Jf1 _ _ _))
theorem Xz8 (W H:Int)(rL vL rD vD rN vN rB vB rS vS rF vF n:Nat)(GL GN GB:Nat->Nat->Int)(fD:Nat->Int)(m:Ja1)(hL:∃ k ez,m[rL]?=some ⟨k,42,vL,ez,dl n GL⟩)(hD:∃ k ez,m[rD]?=some ⟨k,40,vD,ez,il n fD⟩)(hN:∃ k ez,m[rN]?=some ⟨k,59,vN,ez,dl n GN⟩)(hB:∃ k ez,m[rB]?=some ⟨k,42,vB,ez,dl n GB⟩)(lS:rS<m.length)(lF:rF<m.length)(hn:n<=1048576):Ctr Tryz.prog 29 [.agg [.int .i64 W,.int .i64 H,.sl rL vL 0 n,.sl rD vD 0 n,.sl rN vN 0 n,.sl rB vB 0 n,.sl rS vS 0 n,.sl rF vF 0 n]] m (.agg [.int .i64 W,.int .i64 H,.sl m.length 0 0 n,.sl (m.length+1) 0 0 n,.sl (m.length+2) 0 0 n,.sl (m.length+3) 0 0 n,.sl rS vS 0 n,.sl rF vF 0 n]) (m++[⟨.grow,24,0,3,dl n GL⟩,⟨.grow,2,0,1,il n fD⟩,⟨.grow,54,0,3,dl n GN⟩,⟨.grow,24,0,3,dl n GB⟩]):=by
 refine Ctr.en Tryz.func29 [.cell 2 112] 63 fun hwf Q hQ=>?_
 obtain ⟨kL,eL,hLb⟩:=hL
 have lL:=Ja7 hLb
 obtain ⟨kD,eD,hDb⟩:=hD
 have lD:=Ja7 hDb
 obtain ⟨kN,eN,hNb⟩:=hN
 have lN:=Ja7 hNb
 obtain ⟨kB,eB,hBb⟩:=hB
 have lB:=Ja7 hBb
 have hlt0:∀ k,¬m.length+k<m.length:=fun k=>by omega
 have U6:=ca4 hLb (Ja4 hLb) hDb (ca4 (Ja4 hDb) hNb (Ja4 hNb) (ca4 hBb (Ja4 hBb) @Jc3 (ca2 @Jc9 @Ja5)))
 refine AW.wd [[.val,.rd 0,.ext,.val,.rd 0,.val,.rd 0,.val,.fl,.wr]] 5 U6 (Qg3 W H rL vL n GL _ ⟨_,_,Ja4 hLb _⟩ hn) fun K J0=>?_
 refine AW.nilCell 2 1 (m.length+3) 3 (by simp only [push_cast,simprocAttr,U6];first|done|rfl) (by intro e;cases e) rfl ?_
 try simp only [push_cast,simprocAttr,U6]
 refine AW.loopK [1,2,3,19,20] (fun i=>i<=n) (fun i=>[(21,.one (.int .i64 (i:Int)))]) (fun i=>[(m.length+3,⟨.fix,112,0,0,[.int .i64 W,.int .i64 H,.sl (m.length+2) 0 0 n,.sl (m.length+4) i 0 i,.nils,.nils,.sl rS vS 0 n,.sl rF vF 0 n]⟩),(m.length+4,⟨.grow,2,i,1,il i fD⟩)]) (fun i=>n - i) 0 (by omega) ?_ ?_ fun i hi2=>?_
 · first|rfl|(simp only [KS,simprocAttr,dl,il,Int.natCast_zero]<;>repeat' (first|rfl|apply And.intro))
 · first|rfl|(simp only [Ja2,push_cast,simprocAttr,U6,dl,il,Int.natCast_zero]<;>rfl)
 try simp only [Ja9,Ja2,push_cast,simprocAttr,U6]
 refine AW.w 2 U6 Tru fun K J1=>?_
 refine AW.cond rfl (fun h22=>?_) (fun h22=>?_)
 ·have hlt:i<n:=by have:=of_decide_eq_true h22;omega
  have c1:(0:Int)<=(i:Int):=by omega
  have c2:(i:Int)<(n:Int):=by omega
  have g:=Kn8 (f:=fD) hlt
  have gi:=Jc9 i fD
  have q1:i+1<=140737488355328:=by omega
  have q2:(i+1)*8<=140737488355328:=by omega
  refine AW.w 4 Tru Tru fun K J1=>?_
  have U7:=ca4 U6 c1 c2 (ca4 g gi q1 q2)
  refine AW.w 4 U7 Tru ?_
  have hwi:IntKind.i64.wrap ((i:Int)+1)=(i:Int)+1:=wi (by omega)
  exact Wj (i+1) U7 (ca3 hwi @Kx4 @Qg0) (ca2 @Je5 @Jf1)
 have hin:n=i:=by have:=of_decide_eq_false h22;omega
 subst hin
 refine AW.w 5 U6 Tru fun K J0=>?_
 refine AW.nilCell 54 3 (m.length+3) 4 (by simp only [push_cast,simprocAttr,U6];first|done|rfl) (by intro e;cases e) rfl ?_
 try simp only [push_cast,simprocAttr,U6]
 refine AW.loopK [1,2,3,33,34] (fun i=>i<=n) (fun i=>[(35,.one (.int .i64 (i:Int)))]) (fun i=>[(m.length+3,⟨.fix,112,0,0,[.int .i64 W,.int .i64 H,.sl (m.length+2) 0 0 n,.sl (m.length+4) n 0 n,.sl (m.length+5) i 0 i,.nils,.sl rS vS 0 n,.sl rF vF 0 n]⟩),(m.length+5,⟨.grow,54,i,3,dl i GN⟩)]) (fun i=>n - i) 0 (by omega) ?_ ?_ fun i hi6=>?_
 · first|rfl|(simp only [KS,simprocAttr,dl,il,Int.natCast_zero]<;>repeat' (first|rfl|apply And.intro))
 · first|rfl|(simp only [Ja2,push_cast,simprocAttr,U6,dl,il,Int.natCast_zero]<;>rfl)
 try simp only [Ja9,Ja2,push_cast,simprocAttr,U6]
 refine AW.w 2 U6 Tru fun K J1=>?_
 refine AW.cond rfl (fun h36=>?_) (fun h36=>?_)
 ·have hlt:i<n:=by have:=of_decide_eq_true h36;omega
  have c1:(0:Int)<=(i:Int):=by omega
  have c2:(i:Int)<(n:Int):=by omega
  have c3:i*3+3<=n*3:=by omega
  have g0:=Kf7 (G:=GN) hlt
  have g1:=Kf6 (G:=GN) hlt
  have g2:=Kf5 (G:=GN) hlt
  have gt:=Qt9 (G:=GN) hlt
  have gi:=Jc3 i GN
  have q1:i+1<=140737488355328:=by omega
  have q2:(i+1)*24<=140737488355328:=by omega
  refine AW.w 4 Tru Tru fun K J1=>?_
  have U8:=ca4 U6 c1 c2 (ca4 c3 g0 g1 (ca4 g2 gt gi (ca2 q1 q2)))
  refine AW.wd [[.val,.rd 0,.rd 0,.ext,.ext,.wr,.val,.wr]] 4 U8 (f02_c (GN i)) ?_
  have hwi:IntKind.i64.wrap ((i:Int)+1)=(i:Int)+1:=wi (by omega)
  exact Wj (i+1) U8 (ca3 hwi @Kx4 @Qg0) (ca2 @Je5 @Jf1)
 have hin:n=i:=by have:=of_decide_eq_false h36;omega
 subst hin
 refine AW.w 5 U6 Tru fun K J0=>?_
 refine AW.nilCell 24 3 (m.length+3) 5 (by simp only [push_cast,simprocAttr,U6];first|done|rfl) (by intro e;cases e) rfl ?_
 try simp only [push_cast,simprocAttr,U6]
 refine AW.loopK [2,3,48,49] (fun i=>i<=n) (fun i=>[(50,.one (.int .i64 (i:Int)))]) (fun i=>[(m.length+3,⟨.fix,112,0,0,[.int .i64 W,.int .i64 H,.sl (m.length+2) 0 0 n,.sl (m.length+4) n 0 n,.sl (m.length+5) n 0 n,.sl (m.length+6) i 0 i,.sl rS vS 0 n,.sl rF vF 0 n]⟩),(m.length+6,⟨.grow,24,i,3,dl i GB⟩)]) (fun i=>n - i) 0 (by omega) ?_ ?_ fun i hi10=>?_
 · first|rfl|(simp only [KS,simprocAttr,dl,il,Int.natCast_zero]<;>repeat' (first|rfl|apply And.intro))
 · first|rfl|(simp only [Ja2,push_cast,simprocAttr,U6,dl,il,Int.natCast_zero]<;>rfl)
 try simp only [Ja9,Ja2,push_cast,simprocAttr,U6]
 refine AW.w 2 U6 Tru fun K J1=>?_
 refine AW.cond rfl (fun h51=>?_) (fun h51=>?_)
 ·have hlt:i<n:=by have:=of_decide_eq_true h51;omega
  have c1:(0:Int)<=(i:Int):=by omega
  have c2:(i:Int)<(n:Int):=by omega
  have c3:i*3+3<=n*3:=by omega
  have g0:=Kf7 (G:=GB) hlt
  have g1:=Kf6 (G:=GB) hlt
  have g2:=Kf5 (G:=GB) hlt
  have gt:=Qt9 (G:=GB) hlt
  have gi:=Jc3 i GB
  have q1:i+1<=140737488355328:=by omega
  have q2:(i+1)*24<=140737488355328:=by omega
  refine AW.w 4 Tru Tru fun K J1=>?_
  have U9:=ca4 U6 c1 c2 (ca4 c3 g0 g1 (ca4 g2 gt gi (ca2 q1 q2)))
  refine AW.wd [[.val,.rd 0,.rd 0,.ext,.ext,.wr,.val,.wr]] 4 U9 (Ya4 (GB i)) ?_
  have hwi:IntKind.i64.wrap ((i:Int)+1)=(i:Int)+1:=wi (by omega)
  exact Wj (i+1) U9 (ca3 hwi @Kx4 @Qg0) (ca2 @Je5 @Jf1)
 have hin:n=i:=by have:=of_decide_eq_false h51;omega
 subst hin
 refine AW.w 4 U6 Tru ?_
 refine hQ _ _ _ ?_
 refine RetP.pick [(m.length+2,0),(m.length+4,n),(m.length+5,n),(m.length+6,n)] (Or.inr rfl) ?_ ?_ ?_ hwf ?_
 · simp only [Je0,Jb1,Jb9,AV.tv,push_cast,simprocAttr]
   simp [Kg3,Km1,Ka4,Jt4,Jh0,hlt0,lS,lF]
 · simp only [Jm8,push_cast,simprocAttr]
 · simp [Jc2]
 repeat (first|exact Jb3|(refine Ja0 ?_ ?_;· first|exact Je5 _ _ _|exact Jf1 _ _ _))
theorem Qe7 (W H:Int)(r1 v1 r2 v2 n:Nat)(G:Nat->Nat->Int)(m:Ja1)(h1:∃ k ez,m[r1]?=some ⟨k,24,v1,ez,dl n G⟩)(h2:∃ k ez,m[r2]?=some ⟨k,24,v2,ez,dl n G⟩)(hn:n<=1048576):Ctr Tryz.prog 87 [.agg [.int .i64 W,.int .i64 H,.sl r1 v1 0 n],.agg [.int .i64 W,.int .i64 H,.sl r2 v2 0 n]] m (.one (.bool true)) m:=by
 refine Ctr.en Tryz.func87 [.tmp 4] 45 fun hwf Q hQ=>?_
 obtain ⟨k1,e1,hb1⟩:=h1
 obtain ⟨k2,e2,hb2⟩:=h2
 refine AW.sr 1 fun K J0=>?_
 have U10:=ca4 hb1 (Ja4 hb1) hb2 (Ja4 hb2)
 simp only [push_cast,simprocAttr,Jc3,bne_self_eq_false,U10]
 apply J0
 refine AW.q fun K J0=>?_
 refine AW.sr 1 fun K J1=>?_
 simp only [push_cast,simprocAttr,Jc3,bne_self_eq_false,U10]
 refine AW.w 4 Tru Tru ?_
 refine AW.q fun K J0=>?_
 refine AW.sr 1 fun K J1=>?_
 simp only [push_cast,simprocAttr,Jc3,bne_self_eq_false,U10]
 refine AW.w 2 Tru Tru ?_
 refine AW.loopK [2,3] (fun i=>i<=n) (fun i=>[(5,.one (.int .i64 (i:Int)))]) (fun i=>[]) (fun i=>n - i) 0 (by omega) ?_ ?_ fun i hi3=>?_
 · first|rfl|(simp only [KS,simprocAttr]<;>repeat' (first|rfl|apply And.intro))
 · first|rfl|(simp only [Ja2,push_cast,simprocAttr,Jc3,bne_self_eq_false,U10]<;>rfl)
 try simp only [Ja9,Ja2,push_cast,simprocAttr,Jc3,bne_self_eq_false,U10]
 refine AW.q fun K J1=>?_
 refine AW.sr 1 fun K J2=>?_
 simp only [push_cast,simprocAttr,Jc3,bne_self_eq_false,U10]
 apply J2
 refine AW.cond rfl (fun h31=>?_) (fun h31=>?_)
 ·have hlt:i<n:=by have:=of_decide_eq_true h31;omega
  have c1:(0:Int)<=(i:Int):=by omega
  have c2:(i:Int)<(n:Int):=by omega
  have c3:i*3+3<=n*3:=by omega
  have g0:=Kf7 (G:=G) hlt
  have g1:=Kf6 (G:=G) hlt
  have g2:=Kf5 (G:=G) hlt
  have gt:=Qt9 (G:=G) hlt
  refine AW.w 4 Tru Tru fun K J1=>?_
  refine AW.q fun K J2=>?_
  refine AW.draw [.val,.rd 0,.val,.val,.rd 0,.val,.rd 0,.val,.val,.rd 0,.val] fol (by decide) (by kernel_rfl) ?_
  have U11:=ca4 U10 c1 c2 (ca4 c3 g0 g1 (ca2 g2 gt))
  simp only [push_cast,simprocAttr,Jc3,bne_self_eq_false,U11]
  refine AW.w 4 Tru Tru ?_
  refine AW.rg ?_
  simp only [push_cast,simprocAttr,Jc3,bne_self_eq_false,U11]
  apply Jk2
  have hwi:IntKind.i64.wrap ((i:Int)+1)=(i:Int)+1:=wi (by omega)
  refine ⟨i+1,by omega,by omega,?_⟩
  try simp only [Ja9,Ja2,push_cast,simprocAttr,Jc3,bne_self_eq_false,U11,hwi]
  exact Weak.same (by simp only [KS,simprocAttr,hwi]) (by first|rfl|simp only [KS,simprocAttr,hwi])
 have hin:n=i:=by have:=of_decide_eq_false h31;omega
 subst hin
 refine AW.w 2 Tru Tru ?_
 refine AW.sr 1 fun K J0=>?_
 simp only [push_cast,simprocAttr,Jc3,bne_self_eq_false,U10]
 refine AW.w 2 Tru Tru ?_
 refine hQ _ _ _ ?_
 first|refine RetP.drop0 (Or.inr rfl) ?_ ?_ hwf|refine RetP.drop (Or.inr rfl) ?_ ?_ hwf
 · simp only [Je0,Jb1,Jb9,AV.tv,push_cast,simprocAttr,Jc3,bne_self_eq_false,U10]
 rfl
theorem Xv0 (W H:Int)(rL1 vL1 rD1 vD1 rN1 vN1 rB1 vB1 rS1 vS1 rF1 vF1 rL2 vL2 rD2 vD2 rN2 vN2 rB2 vB2 rS2 vS2 rF2 vF2 n:Nat)(GL GN GB:Nat->Nat->Int)(fD fS fF:Nat->Int)(m:Ja1)(hL1:∃ k ez,m[rL1]?=some ⟨k,24,vL1,ez,dl n GL⟩)(hD1:∃ k ez,m[rD1]?=some ⟨k,2,vD1,ez,il n fD⟩)(hN1:∃ k ez,m[rN1]?=some ⟨k,54,vN1,ez,dl n GN⟩)(hB1:∃ k ez,m[rB1]?=some ⟨k,24,vB1,ez,dl n GB⟩)(hS1:∃ k ez,m[rS1]?=some ⟨k,3,vS1,ez,il n fS⟩)(hF1:∃ k ez,m[rF1]?=some ⟨k,3,vF1,ez,il n fF⟩)(hL2:∃ k ez,m[rL2]?=some ⟨k,24,vL2,ez,dl n GL⟩)(hD2:∃ k ez,m[rD2]?=some ⟨k,2,vD2,ez,il n fD⟩)(hN2:∃ k ez,m[rN2]?=some ⟨k,54,vN2,ez,dl n GN⟩)(hB2:∃ k ez,m[rB2]?=some ⟨k,24,vB2,ez,dl n GB⟩)(hS2:∃ k ez,m[rS2]?=some ⟨k,3,vS2,ez,il n fS⟩)(hF2:∃ k ez,m[rF2]?=some ⟨k,3,vF2,ez,il n fF⟩)(hn:n<=1048576):Ctr Tryz.prog 28 [.agg [.int .i64 W,.int .i64 H,.sl rL1 vL1 0 n,.sl rD1 vD1 0 n,.sl rN1 vN1 0 n,.sl rB1 vB1 0 n,.sl rS1 vS1 0 n,.sl rF1 vF1 0 n],.agg [.int .i64 W,.int .i64 H,.sl rL2 vL2 0 n,.sl rD2 vD2 0 n,.sl rN2 vN2 0 n,.sl rB2 vB2 0 n,.sl rS2 vS2 0 n,.sl rF2 vF2 0 n]] m (.one (.bool true)) m:=by
 refine Ctr.en Tryz.func28 [.tmp 4] 151 fun hwf Q hQ=>?_
 obtain ⟨kL1,eL1,bL1⟩:=id hL1
 obtain ⟨kD1,eD1,bD1⟩:=id hD1
 obtain ⟨kN1,eN1,bN1⟩:=id hN1
 obtain ⟨kB1,eB1,bB1⟩:=id hB1
 obtain ⟨kS1,eS1,bS1⟩:=id hS1
 obtain ⟨kF1,eF1,bF1⟩:=id hF1
 obtain ⟨kL2,eL2,bL2⟩:=id hL2
 obtain ⟨kD2,eD2,bD2⟩:=id hD2
 obtain ⟨kN2,eN2,bN2⟩:=id hN2
 obtain ⟨kB2,eB2,bB2⟩:=id hB2
 obtain ⟨kS2,eS2,bS2⟩:=id hS2
 obtain ⟨kF2,eF2,bF2⟩:=id hF2
 refine AW.sr 1 fun K J0=>?_
 have U12:=ca4 bL1 (Ja4 bL1) bD1 (ca4 (Ja4 bD1) bN1 (Ja4 bN1) (ca4 bB1 (Ja4 bB1) bS1 (ca4 (Ja4 bS1) bF1 (Ja4 bF1) (ca4 bL2 (Ja4 bL2) bD2 (ca4 (Ja4 bD2) bN2 (Ja4 bN2) (ca4 bB2 (Ja4 bB2) bS2 (ca3 (Ja4 bS2) bF2 (Ja4 bF2))))))))
 simp only [push_cast,simprocAttr,Jc3,Jc9,bne_self_eq_false,U12]
 apply J0
 refine AW.q fun K J0=>?_
 refine AW.sr 1 fun K J1=>?_
 simp only [push_cast,simprocAttr,Jc3,Jc9,bne_self_eq_false,U12]
 refine CThen.by (Qe7 W H rL1 vL1 rL2 vL2 n GL _ ⟨_,_,Ja4 bL1 _⟩ ⟨_,_,Ja4 bL2 _⟩ hn) ?_
 simp only [push_cast,simprocAttr,Jc3,Jc9,bne_self_eq_false,U12]
 refine AW.w 4 Tru Tru ?_
 refine AW.q fun K J0=>?_
 refine AW.sr 1 fun K J1=>?_
 simp only [push_cast,simprocAttr,Jc3,Jc9,bne_self_eq_false,U12]
 refine AW.w 2 Tru Tru ?_
 refine AW.loopK [2,3] (fun i=>i<=n) (fun i=>[(5,.one (.int .i64 (i:Int)))]) (fun i=>[]) (fun i=>n - i) 0 (by omega) ?_ ?_ fun i hi3=>?_
 · first|rfl|(simp only [KS,simprocAttr]<;>repeat' (first|rfl|apply And.intro))
 · first|rfl|(simp only [Ja2,push_cast,simprocAttr,Jc3,Jc9,bne_self_eq_false,U12]<;>rfl)
 try simp only [Ja9,Ja2,push_cast,simprocAttr,Jc3,Jc9,bne_self_eq_false,U12]
 refine AW.q fun K J1=>?_
 refine AW.sr 1 fun K J2=>?_
 simp only [push_cast,simprocAttr,Jc3,Jc9,bne_self_eq_false,U12]
 apply J2
 refine AW.cond rfl (fun h65=>?_) (fun h65=>?_)
 ·have hlt:i<n:=by have:=of_decide_eq_true h65;omega
  have c1:(0:Int)<=(i:Int):=by omega
  have c2:(i:Int)<(n:Int):=by omega
  have g:=Kn8 (f:=fD) hlt
  refine AW.w 4 Tru Tru fun K J1=>?_
  refine AW.q fun K J2=>?_
  refine AW.draw [.val,.rd 0,.val,.val,.rd 0,.val,.rd 0,.val,.val,.rd 0,.val] fol (by decide) (by kernel_rfl) ?_
  simp only [push_cast,simprocAttr,Jc3,Jc9,bne_self_eq_false,U12,c1,c2,g]
  refine AW.w 4 Tru Tru ?_
  refine AW.rg ?_
  simp only [push_cast,simprocAttr,Jc3,Jc9,bne_self_eq_false,U12,c1,c2,g]
  apply Jk2
  have hwi:IntKind.i64.wrap ((i:Int)+1)=(i:Int)+1:=wi (by omega)
  refine ⟨i+1,by omega,by omega,?_⟩
  try simp only [Ja9,Ja2,push_cast,simprocAttr,Jc3,Jc9,bne_self_eq_false,U12,c1,c2,g,hwi]
  exact Weak.same (by simp only [KS,simprocAttr,hwi]) (by first|rfl|simp only [KS,simprocAttr,hwi])
 have hin:n=i:=by have:=of_decide_eq_false h65;omega
 subst hin
 refine AW.w 2 Tru Tru ?_
 refine AW.q fun K J0=>?_
 refine AW.sr 1 fun K J1=>?_
 simp only [push_cast,simprocAttr,Jc3,Jc9,bne_self_eq_false,U12]
 refine AW.w 2 Tru Tru ?_
 refine AW.loopK [2,3] (fun i=>i<=n) (fun i=>[(6,.one (.int .i64 (i:Int)))]) (fun i=>[]) (fun i=>n - i) 0 (by omega) ?_ ?_ fun i hi8=>?_
 · first|rfl|(simp only [KS,simprocAttr]<;>repeat' (first|rfl|apply And.intro))
 · first|rfl|(simp only [Ja2,push_cast,simprocAttr,Jc3,Jc9,bne_self_eq_false,U12]<;>rfl)
 try simp only [Ja9,Ja2,push_cast,simprocAttr,Jc3,Jc9,bne_self_eq_false,U12]
 refine AW.q fun K J1=>?_
 refine AW.sr 1 fun K J2=>?_
 simp only [push_cast,simprocAttr,Jc3,Jc9,bne_self_eq_false,U12]
 apply J2
 refine AW.cond rfl (fun h83=>?_) (fun h83=>?_)
 ·have hlt:i<n:=by have:=of_decide_eq_true h83;omega
  have c1:(0:Int)<=(i:Int):=by omega
  have c2:(i:Int)<(n:Int):=by omega
  have c3:i*3+3<=n*3:=by omega
  have g0:=Kf7 (G:=GN) hlt
  have g1:=Kf6 (G:=GN) hlt
  have g2:=Kf5 (G:=GN) hlt
  have gt:=Qt9 (G:=GN) hlt
  refine AW.w 4 Tru Tru fun K J1=>?_
  refine AW.q fun K J2=>?_
  refine AW.draw [.val,.rd 0,.val,.val,.rd 0,.val,.rd 0,.val,.val,.rd 0,.val] fol (by decide) (by kernel_rfl) ?_
  have U13:=ca4 U12 c1 c2 (ca4 c3 g0 g1 (ca2 g2 gt))
  simp only [push_cast,simprocAttr,Jc3,Jc9,bne_self_eq_false,U13]
  refine AW.w 4 Tru Tru ?_
  refine AW.rg ?_
  simp only [push_cast,simprocAttr,Jc3,Jc9,bne_self_eq_false,U13]
  apply Jk2
  have hwi:IntKind.i64.wrap ((i:Int)+1)=(i:Int)+1:=wi (by omega)
  refine ⟨i+1,by omega,by omega,?_⟩
  try simp only [Ja9,Ja2,push_cast,simprocAttr,Jc3,Jc9,bne_self_eq_false,U13,hwi]
  exact Weak.same (by simp only [KS,simprocAttr,hwi]) (by first|rfl|simp only [KS,simprocAttr,hwi])
 have hin:n=i:=by have:=of_decide_eq_false h83;omega
 subst hin
 refine AW.w 2 Tru Tru ?_
 refine AW.q fun K J0=>?_
 refine AW.sr 1 fun K J1=>?_
 simp only [push_cast,simprocAttr,Jc3,Jc9,bne_self_eq_false,U12]
 refine AW.w 2 Tru Tru ?_
 refine AW.loopK [2,3] (fun i=>i<=n) (fun i=>[(7,.one (.int .i64 (i:Int)))]) (fun i=>[]) (fun i=>n - i) 0 (by omega) ?_ ?_ fun i hi13=>?_
 · first|rfl|(simp only [KS,simprocAttr]<;>repeat' (first|rfl|apply And.intro))
 · first|rfl|(simp only [Ja2,push_cast,simprocAttr,Jc3,Jc9,bne_self_eq_false,U12]<;>rfl)
 try simp only [Ja9,Ja2,push_cast,simprocAttr,Jc3,Jc9,bne_self_eq_false,U12]
 refine AW.q fun K J1=>?_
 refine AW.sr 1 fun K J2=>?_
 simp only [push_cast,simprocAttr,Jc3,Jc9,bne_self_eq_false,U12]
 apply J2
 refine AW.cond rfl (fun h101=>?_) (fun h101=>?_)
 ·have hlt:i<n:=by have:=of_decide_eq_true h101;omega
  have c1:(0:Int)<=(i:Int):=by omega
  have c2:(i:Int)<(n:Int):=by omega
  have c3:i*3+3<=n*3:=by omega
  have g0:=Kf7 (G:=GB) hlt
  have g1:=Kf6 (G:=GB) hlt
  have g2:=Kf5 (G:=GB) hlt
  have gt:=Qt9 (G:=GB) hlt
  refine AW.w 4 Tru Tru fun K J1=>?_
  refine AW.q fun K J2=>?_
  refine AW.draw [.val,.rd 0,.val,.val,.rd 0,.val,.rd 0,.val,.val,.rd 0,.val] fol (by decide) (by kernel_rfl) ?_
  have U14:=ca4 U12 c1 c2 (ca4 c3 g0 g1 (ca2 g2 gt))
  simp only [push_cast,simprocAttr,Jc3,Jc9,bne_self_eq_false,U14]
  refine AW.w 4 Tru Tru ?_
  refine AW.rg ?_
  simp only [push_cast,simprocAttr,Jc3,Jc9,bne_self_eq_false,U14]
  apply Jk2
  have hwi:IntKind.i64.wrap ((i:Int)+1)=(i:Int)+1:=wi (by omega)
  refine ⟨i+1,by omega,by omega,?_⟩
  try simp only [Ja9,Ja2,push_cast,simprocAttr,Jc3,Jc9,bne_self_eq_false,U14,hwi]
  exact Weak.same (by simp only [KS,simprocAttr,hwi]) (by first|rfl|simp only [KS,simprocAttr,hwi])
 have hin:n=i:=by have:=of_decide_eq_false h101;omega
 subst hin
 refine AW.w 2 Tru Tru ?_
 refine AW.q fun K J0=>?_
 refine AW.sr 1 fun K J1=>?_
 simp only [push_cast,simprocAttr,Jc3,Jc9,bne_self_eq_false,U12]
 refine AW.w 2 Tru Tru ?_
 refine AW.loopK [2,3] (fun i=>i<=n) (fun i=>[(8,.one (.int .i64 (i:Int)))]) (fun i=>[]) (fun i=>n - i) 0 (by omega) ?_ ?_ fun i hi18=>?_
 · first|rfl|(simp only [KS,simprocAttr]<;>repeat' (first|rfl|apply And.intro))
 · first|rfl|(simp only [Ja2,push_cast,simprocAttr,Jc3,Jc9,bne_self_eq_false,U12]<;>rfl)
 try simp only [Ja9,Ja2,push_cast,simprocAttr,Jc3,Jc9,bne_self_eq_false,U12]
 refine AW.q fun K J1=>?_
 refine AW.sr 1 fun K J2=>?_
 simp only [push_cast,simprocAttr,Jc3,Jc9,bne_self_eq_false,U12]
 apply J2
 refine AW.cond rfl (fun h119=>?_) (fun h119=>?_)
 ·have hlt:i<n:=by have:=of_decide_eq_true h119;omega
  have c1:(0:Int)<=(i:Int):=by omega
  have c2:(i:Int)<(n:Int):=by omega
  have g:=Kn8 (f:=fS) hlt
  refine AW.w 4 Tru Tru fun K J1=>?_
  refine AW.q fun K J2=>?_
  refine AW.draw [.val,.rd 0,.val,.val,.rd 0,.val,.rd 0,.val,.val,.rd 0,.val] fol (by decide) (by kernel_rfl) ?_
  simp only [push_cast,simprocAttr,Jc3,Jc9,bne_self_eq_false,U12,c1,c2,g]
  refine AW.w 4 Tru Tru ?_
  refine AW.rg ?_
  simp only [push_cast,simprocAttr,Jc3,Jc9,bne_self_eq_false,U12,c1,c2,g]
  apply Jk2
  have hwi:IntKind.i64.wrap ((i:Int)+1)=(i:Int)+1:=wi (by omega)
  refine ⟨i+1,by omega,by omega,?_⟩
  try simp only [Ja9,Ja2,push_cast,simprocAttr,Jc3,Jc9,bne_self_eq_false,U12,c1,c2,g,hwi]
  exact Weak.same (by simp only [KS,simprocAttr,hwi]) (by first|rfl|simp only [KS,simprocAttr,hwi])
 have hin:n=i:=by have:=of_decide_eq_false h119;omega
 subst hin
 refine AW.w 2 Tru Tru ?_
 refine AW.q fun K J0=>?_
 refine AW.sr 1 fun K J1=>?_
 simp only [push_cast,simprocAttr,Jc3,Jc9,bne_self_eq_false,U12]
 refine AW.w 2 Tru Tru ?_
 refine AW.loopK [2,3] (fun i=>i<=n) (fun i=>[(9,.one (.int .i64 (i:Int)))]) (fun i=>[]) (fun i=>n - i) 0 (by omega) ?_ ?_ fun i hi23=>?_
 · first|rfl|(simp only [KS,simprocAttr]<;>repeat' (first|rfl|apply And.intro))
 · first|rfl|(simp only [Ja2,push_cast,simprocAttr,Jc3,Jc9,bne_self_eq_false,U12]<;>rfl)
 try simp only [Ja9,Ja2,push_cast,simprocAttr,Jc3,Jc9,bne_self_eq_false,U12]
 refine AW.q fun K J1=>?_
 refine AW.sr 1 fun K J2=>?_
 simp only [push_cast,simprocAttr,Jc3,Jc9,bne_self_eq_false,U12]
 apply J2
 refine AW.cond rfl (fun h137=>?_) (fun h137=>?_)
 ·have hlt:i<n:=by have:=of_decide_eq_true h137;omega
  have c1:(0:Int)<=(i:Int):=by omega
  have c2:(i:Int)<(n:Int):=by omega
  have g:=Kn8 (f:=fF) hlt
  refine AW.w 4 Tru Tru fun K J1=>?_
  refine AW.q fun K J2=>?_
  refine AW.draw [.val,.rd 0,.val,.val,.rd 0,.val,.rd 0,.val,.val,.rd 0,.val] fol (by decide) (by kernel_rfl) ?_
  simp only [push_cast,simprocAttr,Jc3,Jc9,bne_self_eq_false,U12,c1,c2,g]
  refine AW.w 4 Tru Tru ?_
  refine AW.rg ?_
  simp only [push_cast,simprocAttr,Jc3,Jc9,bne_self_eq_false,U12,c1,c2,g]
  apply Jk2
  have hwi:IntKind.i64.wrap ((i:Int)+1)=(i:Int)+1:=wi (by omega)
  refine ⟨i+1,by omega,by omega,?_⟩
  try simp only [Ja9,Ja2,push_cast,simprocAttr,Jc3,Jc9,bne_self_eq_false,U12,c1,c2,g,hwi]
  exact Weak.same (by simp only [KS,simprocAttr,hwi]) (by first|rfl|simp only [KS,simprocAttr,hwi])
 have hin:n=i:=by have:=of_decide_eq_false h137;omega
 subst hin
 refine AW.w 2 Tru Tru ?_
 refine AW.sr 1 fun K J0=>?_
 simp only [push_cast,simprocAttr,Jc3,Jc9,bne_self_eq_false,U12]
 refine AW.w 2 Tru Tru ?_
 refine hQ _ _ _ ?_
 first|refine RetP.drop0 (Or.inr rfl) ?_ ?_ hwf|refine RetP.drop (Or.inr rfl) ?_ ?_ hwf
 · simp only [Je0,Jb1,Jb9,AV.tv,push_cast,simprocAttr,Jc3,Jc9,bne_self_eq_false,U12]
 rfl
def Kv6:Nat->Nat->List Plan:=fun f r =>
 match f with
 | 90=>match r with
  | 1=>[.val,.rd 0,.ext,.val,.val,.rd 1,.val,.val,.rd 1,.ext,.val,.val,.val]
  | _=>[]
 | _=>[]
theorem Qd5 (m:Ja1):Ctr Tryz.prog 26 [] m (.one (.bool true)) m :=
 Ctr.run Kv6 200 60 fol (by kernel_rfl) (by first|(simp;done)|(simp;exact ⟨rfl,rfl⟩)|(simp;rfl)|rfl) rfl m
def Qu3 (n:Nat)(x:SN):Prop:=x.sh=-1\/∃ i:Nat,i<n/\x.sh=(i:Int)
theorem Xd1 {w:WD}{b:Nat}{s:SN}{h:HT}{i:Nat}(hs:Qu3 w.n s)(hi:i<w.n):Qu3 w.n (Jv2 w b s h i):=by
 unfold Jv2
 split
 ·exact .inr ⟨i,hi,rfl⟩
 exact hs
theorem Vr7 {w:WD}{k:KY}{d:Int}{s:TS}{sn:SN}{h:HT}{i:Nat}(hs:Qu3 w.n sn):Qu3 w.n (liS w k d s sn h i):=by
 unfold liS
 split
 ·exact hs
 exact hs
def ShS (n:Nat):SN ⊕ TS->Prop
 | .inl x=>Qu3 n x
 | .inr s=>Qu3 n s.s
theorem Xc7 {w:WD}{k:KY}{b:Nat}{d:Int}{s:TS}(hs:Qu3 w.n s.s):ShS w.n (Js8 w k b d s):=by
 unfold Js8
 split
 ·exact hs
 rename_i t i hf
 have hi:i<w.n:=Ke6 hf
 have h1:Qu3 w.n (Jv2 w b s.s (Kd6 w s.r t i) i):=Xd1 hs hi
 split
 ·show Qu3 w.n _
  split
  ·exact h1
  exact h1
 split
 ·exact Vr7 h1
 split
 ·exact Vr7 h1
 split
 ·exact Vr7 h1
 exact Vr7 h1
theorem Qi4 {w:WD}{k:KY}:∀ (f b:Nat) (s:TS),Qu3 w.n s.s->Qu3 w.n (Jr5 w k f b s)
 | 0,_,_,hs=>hs
 | f+1,b,s,hs=>by
  have h:=Xc7 (k:=k) (b:=b) (d:=3+8*(b:Int)) hs
  unfold Jr5
  split
  ·rename_i x hx
   rw [hx] at h;exact h
  rename_i x hx
  rw [hx] at h;exact Qi4 f (b+1) x h
theorem Vc7 (s:SC)(f:Int)(a b:VW)(x y:Int):Qu3 s.nx (Qv0 s f a b x y):=Qi4 (w:=Jd1 s f) _ 0 _ (.inl rfl)
noncomputable def pxS (s:SC)(f:Int)(W i:Nat):SN:=Qv0 s f (Jg7 s (f*65536)) (Jg7 s (f*65536+s.sh)) ((i%W:Nat):Int) ((i / W:Nat):Int)
noncomputable def gL (s:SC)(f:Int)(W i k:Nat):Int:=(pxS s f W i).li k
noncomputable def gN (s:SC)(f:Int)(W i k:Nat):Int:=(pxS s f W i).no k
noncomputable def gB (s:SC)(f:Int)(W i k:Nat):Int:=(pxS s f W i).ba k
noncomputable def gD (s:SC)(f:Int)(W i:Nat):Int:=(pxS s f W i).dep
noncomputable def gS (s:SC)(f:Int)(W i:Nat):Int:=(pxS s f W i).sh
noncomputable def gF (s:SC)(f:Int)(W i:Nat):Int:=Ya0 s f (pxS s f W i)
theorem Xn8 {v:VW}{p:V}{w h:Int}(hw:v.w=w)(hh:v.h=h)(w1:1<=w)(w2:w<=64)(h2:h<=64):-1<=Ko1 w (Kq8 v p)/\Ko1 w (Kq8 v p)<w*h\/Kq8 v p=none:=by
 rcases ho:Kq8 v p with _|⟨x,y⟩
 ·exact .inr rfl
 obtain ⟨a1,a2,a3,a4⟩:=Vc6 ho
 rw [hw] at a2;rw [hh] at a4
 have m0:0<=y*w:=Int.mul_nonneg a3 (by omega)
 have m1:(y+1)*w<=h*w:=Int.mul_le_mul_of_nonneg_right (by omega) (by omega)
 rw [Int.add_mul,Int.one_mul,Int.mul_comm h w] at m1
 refine .inl ⟨?_,?_⟩
 ·show -1<=y*w+x
  omega
 show y*w+x<w*h
 omega
theorem gF_b {s:SC}{f:Int}{W i:Nat}{n:Nat}(w1:1<=s.w)(w2:s.w<=64)(h1:1<=s.h)(h2:s.h<=64)(hn:s.w*s.h=(n:Int)):¬gF s f W i < -1/\¬(n:Int)<=gF s f W i:=by
 have hp:0<=(n:Int):=by omega
 unfold gF Ya0
 split
 ·constructor
  ·omega
  omega
 rcases Xn8 (v:=Jg7 s ((f - 1)*65536)) (p:=Xn7 s f (pxS s f W i) (pxS s f W i).sh.toNat) (w:=s.w) (h:=s.h) rfl rfl w1 w2 h2 with h|h
 ·rw [hn] at h
  constructor
  ·omega
  omega
 rw [h]
 show ¬(-1:Int) < -1/\¬(n:Int)<=-1
 constructor
 ·omega
 omega
theorem gS_b {s:SC}{f:Int}{W i:Nat}(hx:s.nx<=128):¬gS s f W i < -1/\¬128<=gS s f W i:=by
 have h:=Vc7 s f (Jg7 s (f*65536)) (Jg7 s (f*65536+s.sh)) ((i%W:Nat):Int) ((i / W:Nat):Int)
 have e:gS s f W i=(Qv0 s f (Jg7 s (f*65536)) (Jg7 s (f*65536+s.sh)) ((i%W:Nat):Int) ((i / W:Nat):Int)).sh:=rfl
 rw [e]
 rcases h with h|⟨j,hj,h⟩
 ·rw [h];omega
 rw [h];omega
theorem Xx4 {P:Program}{tm:Tm}{mem m5:Ja1}{rs:List ResultVar}{ret:AV}{extra bs:Ja1}{ex:Exit}(hm:∃ X,m5=mem++X)(ks:List (Nat × Nat))(hex:ex=.normal\/ex=.ret)(hx:(Je0 P rs tm (m5++extra)).bind (Kg3 mem.length ks)=some ret)(hbs:Jm8 (m5++extra) ks=some bs)
  (hd:Jc2 mem.length ks) (hw:MWf mem.length mem) (hwb:MWf mem.length bs):RetP P rs mem.length ret (mem++bs) ex tm (m5++extra):=by
 obtain ⟨X,rfl⟩:=hm
 rw [List.append_assoc] at hx hbs ⊢
 exact RetP.pick ks hex hx hbs hd hw hwb
theorem Qn6 {s:SC}{f:Int}{W k:Nat}(h:f=0\/(pxS s f W k).sh<0):gF s f W k=-1:=if_pos h
theorem Xa5 {s:SC}{f:Int}{W k i:Nat}(hf:¬f=0)(hs:(pxS s f W k).sh=(i:Int)):gF s f W k=Ko1 s.w (Kq8 (Jg7 s ((f - 1)*65536)) (Ja8 (pxS s f W k).po (Ja8 ((atM (mvS s f i) (pxS s f W k).pt).P 0) ((plS s ((f - 1)*65536) i).P 0)))):=by
 have e:gF s f W k=Ko1 s.w (Kq8 (Jg7 s ((f - 1)*65536)) (Xn7 s f (pxS s f W k) (pxS s f W k).sh.toNat)):=if_neg (by rw [hs];omega)
 rw [e,hs];rfl
theorem Vy8 (s:SC)(f:Int)(W k:Nat):Qu3 s.nx (pxS s f W k):=Vc7 s f _ _ _ _
theorem Xn6 (s:SC)(f:Int)(W k:Nat)(c:CV)(m:Ja1)(hf:f=0):Ctr Tryz.prog 86 [.one .nilp,.one c,.agg (snC (pxS s f W k))] m (.one (.int .i64 (gF s f W k))) m:=by
 rw [Qn6 (.inl hf)];exact Vt4 c _ m
theorem Xn5 (s:SC)(R:RWs)(f:Int)(E:SE)(a b:VW)(p q:Nat)(rr rv:Nat)(W k:Nat)(m:Ja1)(hf:¬f=0)(hS:SetAt m p s R f E a b)(hq:m[q]?=some ⟨.fix,216,0,0,vwC (Jg7 s ((f - 1)*65536))++[.sl rr rv 0 s.nx]⟩)(hr:∃ k ez,m[rr]?=some ⟨k,84,rv,ez,Jb2 s.nx (plF s ((f - 1)*65536))⟩):Ctr Tryz.prog 86 [.one (.ptr q 0 0),.one (.ptr p 0 0),.agg (snC (pxS s f W k))] m (.one (.int .i64 (gF s f W k))) m:=by
 rcases Vy8 s f W k with h|⟨i,hi,h⟩
 ·have h1:(pxS s f W k).sh<0:=by omega
  rw [Qn6 (.inr h1)];exact Vt5 q _ _ m h1
 rw [Xa5 hf h];exact Xz9 s R f E a b p q _ _ rr rv _ i m hS hq hr hi h rfl rfl
theorem Xh4 (s:SC)(R:RWs)(f:Int)(W k:Nat)(m:Ja1)(hR:ScR 138 143 285 146 150 m s R)(hG:GoS s)(hT:∀ i,i<s.nt->TrS s i)(hJ:∀ i,i<s.nj->JoR s i)(hX:∀ i,i<s.nx->-1<=s.xj i/\s.xj i<(s.nj:Int))(hE:s.ey<(s.nt:Int))(hL:s.lk<(s.nt:Int))(hf:0<=f/\f<=1000000):Ctr Tryz.prog 89 [.agg (scC s R),.one (.int .i64 f),.agg (snC (pxS s f W k))] m (.one (.int .i64 (gF s f W k))) m:=by
 rcases Classical.em (f=0) with h0|h0
 ·rw [Qn6 (.inl h0)];exact Xh2 s R f _ m hR h0
 rcases Vy8 s f W k with h|⟨i,hi,h⟩
 ·have h1:(pxS s f W k).sh<0:=by omega
  rw [Qn6 (.inr h1)];exact Xh3 s R f _ m hR h0 h1
 rw [Xa5 h0 h];exact Xh5 s R f _ i m hR hG hT hJ hX hE hL (by omega) hi h
theorem Qg4 (s:SC)(R:RWs)(f:Int)(m:Ja1)(hR:ScR 140 119 223 148 155 m s R)(hc:(Ji5 s).1=0)(hf:f<0\/s.fr<=f):Ctr Tryz.prog 27 [.agg (scC s R),.one (.int .i64 f)] m (.tup [(true,[.int .i64 0,.int .i64 0,.nils,.nils,.nils,.nils,.nils,.nils]),(false,[.int .i64 1])]) m:=by
 have U1:=ca4 @Jg0 @Jf6 @Jf9 @Ja5
 exact Ctr.f Tryz.func27 [.cell 4 102,.tmp 5] 114 U1 (Vb0 s R f _ (hR.app _) hc hf)
theorem Vg2 (s:SC)(R:RWs)(f:Int)(m:Ja1)(hR:ScR 140 119 223 148 155 m s R)(hc:(Ji5 s).1=0)(h0:0<=f)(h1:f<s.fr)(hf:¬f=0)(W H n:Nat)(hW:s.w=(W:Int))(hH:s.h=(H:Int))(hn:n=H*W):Ctr Tryz.prog 27 [.agg (scC s R),.one (.int .i64 f)] m (.tup [(true,[.int .i64 s.w,.int .i64 s.h,.sl m.length 0 0 n,.sl (m.length+1) 0 0 n,.sl (m.length+2) 0 0 n,.sl (m.length+3) 0 0 n,.sl (m.length+4) 0 0 n,.sl (m.length+5) 0 0 n]),(false,[.int .i64 0])]) (m++[⟨.grow,42,0,3,dl n (gL s f W)⟩,⟨.grow,40,0,1,il n (gD s f W)⟩,⟨.grow,59,0,3,dl n (gN s f W)⟩,⟨.grow,42,0,3,dl n (gB s f W)⟩,⟨.grow,3,0,1,il n (gS s f W)⟩,⟨.grow,3,0,1,il n (gF s f W)⟩]):=by
 refine Ctr.en Tryz.func27 [.cell 4 102,.tmp 5] 114 fun hwf Q hQ=>?_
 obtain ⟨hG,hC0⟩:=Js4 hc
 have hg:=Qc1 hG
 have hgw:=hg.w
 have hgh:=hg.h
 have hgf:=hg.fr
 have hgx:=hG.x
 have hsh:=hg.sh
 have hT:=hG.tr
 have hJ:=hG.jo
 have hX:=hG.xj
 have hE:=hG.ey
 have hLK:=hG.lk
 have hWH:s.w*s.h=(n:Int):=by rw [hW,hH,hn,Int.mul_comm];push_cast;rfl
 have hW0:0<W:=by omega
 have hH0:0<H:=by omega
 have hn0:0<n:=by rw [hn];exact Nat.mul_pos hH0 hW0
 have hn9:n<=4096:=by rw [hn];exact Nat.le_trans (Nat.mul_le_mul (show H<=64 by omega) (show W<=64 by omega)) (by omega)
 have wn:IntKind.i64.wrap (n:Int)=(n:Int):=wi (by omega)
 have hwn:¬s.w=0:=by omega
 have hwz:(s.w ==0)=false:=by rw [beq_eq_false_iff_ne];omega
 have hlt9:∀ k,¬m.length+k<m.length:=fun k=>by omega
 have e24:¬f<0:=by omega
 have e25:0<f:=by omega
 have w1:IntKind.i64.wrap (f - 1)=f - 1:=wi (by omega)
 obtain ⟨x9,hx9⟩:∃ z,(f - 1)*65536=z:=⟨_,rfl⟩
 obtain ⟨v9,hv9⟩:∃ v,Jg7 s x9=v:=⟨_,rfl⟩
 have hnj:s.nj<=1000000:=by have:=hG.j;omega
 have hnx:s.nx<=1000000:=by have:=hG.x;omega
 have U3:=ca4 @Jg0 @Jf6 @Jf9 (ca4 @Ja5 e24 hwn (ca4 hwz wn e25 (ca2 w1 @Jn5)))
 refine AW.c 1 U3 Tru ?_
 refine AW.anyMemG (fun m1=>(∃ L,m1=m++L)/\MWf m1.length m1/\m1[m.length]?=some ⟨.fix,52,0,0,scC s R⟩/\m1[m.length+1]?=some ⟨.fix,102,0,0,[.int .i64 0,.int .i64 0,.nils,.nils,.nils,.nils,.nils,.nils]⟩) ⟨⟨_,rfl⟩,?_,?_,?_⟩ fun m1 hm1=>?_
 · exact MWf.app (hwf.grow (by simp)) (Ja0 (hR.bel _ (by simp)) (Ja0 rfl Jb3))
 · rw [Jn8];rfl
 · rw [Jf3];rfl
 obtain ⟨hmx1,hwf1,hb1,hz1⟩:=hm1
 have hR1:ScR 140 119 223 148 155 m1 s R:=by obtain ⟨L,e⟩:=hmx1;rw [e];exact hR.app _
 have lb1:=Ja7 hb1
 have lz1:=Ja7 hz1
 obtain ⟨L9,p,E,hrd,hS,hw9⟩:=Qa4 s R f m1 hR1 hc h0 h1
 obtain ⟨a,ha⟩:∃ a,Jg7 s (f*65536)=a:=⟨_,rfl⟩
 obtain ⟨b,hb⟩:∃ b,Jg7 s (f*65536+s.sh)=b:=⟨_,rfl⟩
 rw [ha,hb] at hS
 obtain ⟨m2,hm2⟩:∃ z,m1++L9=z:=⟨_,rfl⟩
 have hb2:m2[m.length]?=some ⟨.fix,52,0,0,scC s R⟩:=by rw [<-hm2];exact Ja4 hb1 _
 have hz2:m2[m.length+1]?=some ⟨.fix,102,0,0,[.int .i64 0,.int .i64 0,.nils,.nils,.nils,.nils,.nils,.nils]⟩:=by rw [<-hm2];exact Ja4 hz1 _
 have hR2:ScR 140 119 223 148 155 m2 s R:=by rw [<-hm2];exact hR1.app _
 have hwf2:MWf m2.length m2:=by rw [<-hm2];exact hw9 hwf1
 have hmx2:∃ X,m2=m++X:=by obtain ⟨X,e⟩:=hmx1;exact ⟨_,by rw [<-hm2,e,List.append_assoc]⟩
 rw [hm2] at hS hrd
 have lb2:=Ja7 hb2
 have lz2:=Ja7 hz2
 have U4:=ca4 U3 hb1 (Ja4 hb1) (ca2 hz1 (Ja4 hz1))
 refine AW.w 6 U4 hrd ?_
 have U5:=ca4 U4 hb2 (Ja4 hb2) (ca2 hz2 (Ja4 hz2))
 refine AW.w 4 U5 Tru fun K J0=>?_
 have q_1:=Qb1 s (f - 1)
 rw [hx9] at q_1
 unfold hdC c3C at q_1
 refine AW.c 1 U5 (q_1 _ (by omega)) ?_
 have q_2:=fun M hR=>Ky3 s R x9 M hR hT
 rw [hv9] at q_2
 refine AW.wd [[.rd 0,.val,.ext,.rd 0,.val,.ext,.val,.ext,.val]] 2 U5 (ca2 (q_2 _ hR2) (Kt9 s R x9 _ hR2 hT hX hnj hnx)) ?_
 refine AW.anyMemG (fun m5=>(∃ X,m5=m++X)/\MWf m5.length m5/\m5[m.length]?=some ⟨.fix,52,0,0,scC s R⟩/\m5[m.length+1]?=some ⟨.fix,102,0,0,[.int .i64 0,.int .i64 0,.nils,.nils,.nils,.nils,.nils,.nils]⟩/\SetAt m5 p s R f E a b/\m5[m2.length+1]?=some ⟨.fix,216,0,0,vwC v9++[.sl m2.length 0 0 s.nx]⟩/\∃ k ez,m5[m2.length]?=some ⟨k,84,0,ez,Jb2 s.nx (plF s x9)⟩) ⟨?_,?_,?_,?_,?_,?_,?_⟩ fun m5 hm5=>?_
 · obtain ⟨X,e⟩:=hmx2;exact ⟨_,by rw [e,List.append_assoc]⟩
 · exact MWf.app (hwf2.grow (by simp)) (Ja0 (Jb8 _ (fun _=>rfl) _) (Ja0 (by simp [vwC,c3C,CV.below]) Jb3))
 · exact Ja4 hb2 _
 · exact Ja4 hz2 _
 · exact hS.app _
 · rw [Jf3];rfl
 · exact ⟨_,_,by rw [Jn8];rfl⟩
 obtain ⟨hmx5,hwf5,hb5,hz5,hS5,hq5,hr5⟩:=hm5
 have lq5:=Ja7 hq5
 have lb5:=Ja7 hb5
 have lz5:=Ja7 hz5
 have lp5:=Ja7 hS5.hp
 have U6:=ca4 U5 hb5 (Ja4 hb5) (ca2 hz5 (Ja4 hz5))
 refine AW.c 1 U6 Tru ?_
 refine AW.q fun K J0=>?_
 refine AW.sr 1 fun K J1=>?_
 simp only [push_cast,simprocAttr,U6]
 refine CThen.by (Qn8 s.w s.h n _ (by rw [hWH];exact wn)) ?_
 simp only [push_cast,simprocAttr,U6]
 refine AW.w 2 Tru Tru ?_
 refine AW.nilCell 42 3 (m5.length) 2 (by simp only [push_cast,simprocAttr,U6];first|done|rfl) (by intro e;cases e) rfl ?_
 try simp only [push_cast,simprocAttr,U6]
 refine AW.nilCell 40 1 (m5.length) 3 (by simp only [push_cast,simprocAttr,U6];first|done|rfl) (by intro e;cases e) rfl ?_
 try simp only [push_cast,simprocAttr,U6]
 refine AW.nilCell 59 3 (m5.length) 4 (by simp only [push_cast,simprocAttr,U6];first|done|rfl) (by intro e;cases e) rfl ?_
 try simp only [push_cast,simprocAttr,U6]
 refine AW.nilCell 42 3 (m5.length) 5 (by simp only [push_cast,simprocAttr,U6];first|done|rfl) (by intro e;cases e) rfl ?_
 try simp only [push_cast,simprocAttr,U6]
 refine AW.nilCell 3 1 (m5.length) 6 (by simp only [push_cast,simprocAttr,U6];first|done|rfl) (by intro e;cases e) rfl ?_
 try simp only [push_cast,simprocAttr,U6]
 refine AW.nilCell 3 1 (m5.length) 7 (by simp only [push_cast,simprocAttr,U6];first|done|rfl) (by intro e;cases e) rfl ?_
 try simp only [push_cast,simprocAttr,U6]
 refine AW.loopK [2,4,6,8,10,50] (fun i=>i<=n) (fun i=>[(51,.one (.int .i64 ((i:Int))))]) (fun i=>[(m5.length,⟨.fix,102,0,0,[.int .i64 s.w,.int .i64 s.h,.sl (m5.length+1) i 0 i,.sl (m5.length+2) i 0 i,.sl (m5.length+3) i 0 i,.sl (m5.length+4) i 0 i,.sl (m5.length+5) i 0 i,.sl (m5.length+6) i 0 i]⟩),(m5.length+1,⟨.grow,42,i,3,dl i (gL s f W)⟩),(m5.length+2,⟨.grow,40,i,1,il i (gD s f W)⟩),(m5.length+3,⟨.grow,59,i,3,dl i (gN s f W)⟩),(m5.length+4,⟨.grow,42,i,3,dl i (gB s f W)⟩),(m5.length+5,⟨.grow,3,i,1,il i (gS s f W)⟩),(m5.length+6,⟨.grow,3,i,1,il i (gF s f W)⟩)]) (fun i=>n - i) 0 (by omega) ?_ ?_ fun i hi4=>?_
 · first|rfl|(simp only [KS,simprocAttr,dl,il,Int.natCast_zero]<;>repeat' (first|rfl|apply And.intro))
 · (simp only [Ja2,push_cast,simprocAttr,dl,il])<;>rfl
 try simp only [Ja9,Ja2,push_cast,simprocAttr,U6]
 refine AW.w 2 U6 Tru fun K J1=>?_
 refine AW.cond rfl (fun h52=>?_) (fun h52=>?_)
 ·have hlt:i<n:=by have:=of_decide_eq_true h52;omega
  have c1:(0:Int)<=(i:Int):=by omega
  have hd1:i / W<H:=Nat.div_lt_of_lt_mul (by rw [Nat.mul_comm,<-hn];exact hlt)
  have hd2:i%W<W:=Nat.mod_lt _ hW0
  have r1:(i:Int).tmod s.w=((i%W:Nat):Int):=by rw [hW,Int.tmod_eq_emod_of_nonneg (by omega)];rfl
  have r2:(i:Int).tdiv s.w=((i / W:Nat):Int):=by rw [hW,Int.tdiv_eq_ediv_of_nonneg (by omega)];rfl
  obtain ⟨T9,hT9⟩:∃ z,pxS s f W i=z:=⟨_,rfl⟩
  have hTc:=Jx3 T9
  obtain ⟨y9,hy9⟩:∃ z,gF s f W i=z:=⟨_,rfl⟩
  have q1:i+1<=140737488355328:=by omega
  have q2:(i+1)*24<=140737488355328:=by omega
  have q3:(i+1)*8<=140737488355328:=by omega
  have gl0:=Jc3 i (gL s f W)
  have gl1:=Jc9 i (gD s f W)
  have gl2:=Jc3 i (gN s f W)
  have gl3:=Jc3 i (gB s f W)
  have gl4:=Jc9 i (gS s f W)
  have gl5:=Jc9 i (gF s f W)
  have hp0:dl i (gL s f W)++[.int .i64 (T9.li 0),.int .i64 (T9.li 1),.int .i64 (T9.li 2)]=dl (i+1) (gL s f W):=by rw [<-hT9];rfl
  have hp1:il i (gD s f W)++[.int .i64 T9.dep]=il (i+1) (gD s f W):=by rw [<-hT9];rfl
  have hp2:dl i (gN s f W)++[.int .i64 (T9.no 0),.int .i64 (T9.no 1),.int .i64 (T9.no 2)]=dl (i+1) (gN s f W):=by rw [<-hT9];rfl
  have hp3:dl i (gB s f W)++[.int .i64 (T9.ba 0),.int .i64 (T9.ba 1),.int .i64 (T9.ba 2)]=dl (i+1) (gB s f W):=by rw [<-hT9];rfl
  have hp4:il i (gS s f W)++[.int .i64 T9.sh]=il (i+1) (gS s f W):=by rw [<-hT9];rfl
  have hp5:il i (gF s f W)++[.int .i64 y9]=il (i+1) (gF s f W):=by rw [<-hy9];rfl
  have hTp:Qv0 s f a b ((i%W:Nat):Int) ((i / W:Nat):Int)=T9:=by rw [<-hT9,<-ha,<-hb];rfl
  obtain ⟨X9,hX9⟩:∃ z:Nat,i%W=z:=⟨_,rfl⟩
  obtain ⟨Y9,hY9⟩:∃ z:Nat,i / W=z:=⟨_,rfl⟩
  rw [hX9] at r1 hd2
  rw [hY9] at r2 hd1
  rw [hX9,hY9] at hTp
  have r3:IntKind.i64.wrap (X9:Int)=(X9:Int):=wi (by omega)
  have r4:IntKind.i64.wrap (Y9:Int)=(Y9:Int):=wi (by omega)
  refine AW.w 4 Tru Tru fun K J1=>?_
  have U7:=ca4 U6 r1 r2 (ca4 r3 r4 c1 (ca4 hTc q1 q2 (ca4 q3 gl0 gl1 (ca4 gl2 gl3 gl4 gl5))))
  refine AW.c 1 U7 Tru ?_
  have q_3:=fun M hS=>Vc5 s R f E a b p (X9:Int) (Y9:Int) M hS (by omega) (by omega) (by omega) (by omega)
  rw [hTp,hTc] at q_3
  refine AW.wd [[.val,.val,.val,.val,.rd 0,.val,.val,.val,.val,.rd 0,.val,.ext,.fl,.wr]] 6 U7 (q_3 _ (hS5.app _)) ?_
  refine AW.draw [.val,.rd 0,.val,.val,.rd 0,.ext,.ext,.wr,.val,.wr] fol (by decide) (by kernel_rfl) ?_
  simp only [push_cast,simprocAttr,U7]
  refine DCall.z ((by have h9:=Xn5 s R f E a b p (m2.length+1) m2.length 0 W i;rw [hx9,hv9,hT9,hTc,hy9] at h9;exact h9 _ (by omega) (hS5.app _) (Ja4 hq5 _) (by obtain ⟨k,ez,q⟩:=hr5;exact ⟨k,ez,Ja4 q _⟩))) ?_
  simp only [push_cast,simprocAttr,U7]
  refine DExt.by (by first|rfl|exact (List.append_nil _).symm|(simp only [List.append_assoc,List.cons_append,List.nil_append];rfl)) ?_
  simp only [push_cast,simprocAttr,U7]
  refine AW.w 2 U7 Tru ?_
  have hwi:IntKind.i64.wrap ((i:Int)+1)=(i:Int)+1:=wi (by omega)
  refine ⟨i+1,by omega,by omega,?_⟩
  try simp only [Ja9,Ja2,push_cast,simprocAttr,U7,hwi,hp0,hp1,hp2,hp3,hp4,hp5]
  exact Weak.to (extra:=_) (by simp only [KS,simprocAttr,hwi,hp0,hp1,hp2,hp3,hp4,hp5]) (by first|rfl|(simp only [List.append_assoc,List.cons_append,List.nil_append];rfl)) (by first|rfl|(simp [AV.below,CV.below];done)|(simp [AV.below,CV.below];omega)) (by exact MWf.app (hwf5.grow (by simp)) (Ja0 (by simp [CV.below]) (Ja0 (Je5 _ _ _) (Ja0 (Jf1 _ _ _) (Ja0 (Je5 _ _ _) (Ja0 (Je5 _ _ _) (Ja0 (Jf1 _ _ _) (Ja0 (Jf1 _ _ _) Jb3))))))))
 have hin:i=n:=by have:=of_decide_eq_false h52;omega
 rw [hin]
 refine AW.w 2 Tru Tru ?_
 obtain ⟨M6,hM6⟩:∃ M,m5.set (m.length+1) ⟨.fix,102,0,0,[.int .i64 s.w,.int .i64 s.h,.sl (m5.length+1) n 0 n,.sl (m5.length+2) n 0 n,.sl (m5.length+3) n 0 n,.sl (m5.length+4) n 0 n,.sl (m5.length+5) n 0 n,.sl (m5.length+6) n 0 n]⟩=M:=⟨_,rfl⟩
 have hs6:∀ L,(m5++L).set (m.length+1) ⟨.fix,102,0,0,[.int .i64 s.w,.int .i64 s.h,.sl (m5.length+1) n 0 n,.sl (m5.length+2) n 0 n,.sl (m5.length+3) n 0 n,.sl (m5.length+4) n 0 n,.sl (m5.length+5) n 0 n,.sl (m5.length+6) n 0 n]⟩=M6++L:=fun L=>by rw [<-hM6,List.set_append_left _ _ lz5]
 have hl6:M6[m.length+1]?=some ⟨.fix,102,0,0,[.int .i64 s.w,.int .i64 s.h,.sl (m5.length+1) n 0 n,.sl (m5.length+2) n 0 n,.sl (m5.length+3) n 0 n,.sl (m5.length+4) n 0 n,.sl (m5.length+5) n 0 n,.sl (m5.length+6) n 0 n]⟩:=by rw [<-hM6,List.getElem?_set_self lz5]
 have hn6:M6.length=m5.length:=by rw [<-hM6,List.length_set]
 have hmx6:∃ X,M6=m++X:=by
   obtain ⟨X,e⟩:=hmx5
   exact ⟨X.set 1 ⟨.fix,102,0,0,[.int .i64 s.w,.int .i64 s.h,.sl (m5.length+1) n 0 n,.sl (m5.length+2) n 0 n,.sl (m5.length+3) n 0 n,.sl (m5.length+4) n 0 n,.sl (m5.length+5) n 0 n,.sl (m5.length+6) n 0 n]⟩,by rw [<-hM6,e,List.set_append_right _ _ (by omega),show m.length+1 - m.length=1 by omega]⟩
 have hle5:m.length<=m5.length:=by
   obtain ⟨X,e⟩:=hmx5
   rw [e,List.length_append];omega
 have hlt5:∀ k,¬m5.length+k<m.length:=fun k=>by
   obtain ⟨X,e⟩:=hmx5
   rw [e,List.length_append];omega
 have U8:=ca4 U6 hs6 hl6 (ca2 (Ja4 hl6) hn6)
 refine AW.w 2 U8 Tru ?_
 refine hQ _ _ _ ?_
 refine Xx4 hmx6 [(m5.length+1,n),(m5.length+2,n),(m5.length+3,n),(m5.length+4,n),(m5.length+5,n),(m5.length+6,n)] (by first|exact Or.inr rfl|exact Or.inl rfl) ?_ ?_ ?_ hwf ?_
 · simp only [Je0,Jb1,Jb9,AV.tv,push_cast,simprocAttr,hl6,Ja4 hl6,hn6]
   simp [Kg3,Km1,Ka4,Jt4,Jh0,hlt9,hlt5]
 · rw [<-hn6];simp only [Jm8,push_cast,simprocAttr]
 · simp [Jc2];omega
 repeat (first|exact Jb3|(refine Ja0 ?_ ?_;· first|exact Je5 _ _ _|exact Jf1 _ _ _))
theorem Vg3 (s:SC)(R:RWs)(f:Int)(m:Ja1)(hR:ScR 140 119 223 148 155 m s R)(hc:(Ji5 s).1=0)(h0:0<=f)(h1:f<s.fr)(hf:f=0)(W H n:Nat)(hW:s.w=(W:Int))(hH:s.h=(H:Int))(hn:n=H*W):Ctr Tryz.prog 27 [.agg (scC s R),.one (.int .i64 f)] m (.tup [(true,[.int .i64 s.w,.int .i64 s.h,.sl m.length 0 0 n,.sl (m.length+1) 0 0 n,.sl (m.length+2) 0 0 n,.sl (m.length+3) 0 0 n,.sl (m.length+4) 0 0 n,.sl (m.length+5) 0 0 n]),(false,[.int .i64 0])]) (m++[⟨.grow,42,0,3,dl n (gL s f W)⟩,⟨.grow,40,0,1,il n (gD s f W)⟩,⟨.grow,59,0,3,dl n (gN s f W)⟩,⟨.grow,42,0,3,dl n (gB s f W)⟩,⟨.grow,3,0,1,il n (gS s f W)⟩,⟨.grow,3,0,1,il n (gF s f W)⟩]):=by
 refine Ctr.en Tryz.func27 [.cell 4 102,.tmp 5] 114 fun hwf Q hQ=>?_
 obtain ⟨hG,hC0⟩:=Js4 hc
 have hg:=Qc1 hG
 have hgw:=hg.w
 have hgh:=hg.h
 have hgf:=hg.fr
 have hgx:=hG.x
 have hsh:=hg.sh
 have hT:=hG.tr
 have hJ:=hG.jo
 have hX:=hG.xj
 have hE:=hG.ey
 have hLK:=hG.lk
 have hWH:s.w*s.h=(n:Int):=by rw [hW,hH,hn,Int.mul_comm];push_cast;rfl
 have hW0:0<W:=by omega
 have hH0:0<H:=by omega
 have hn0:0<n:=by rw [hn];exact Nat.mul_pos hH0 hW0
 have hn9:n<=4096:=by rw [hn];exact Nat.le_trans (Nat.mul_le_mul (show H<=64 by omega) (show W<=64 by omega)) (by omega)
 have wn:IntKind.i64.wrap (n:Int)=(n:Int):=wi (by omega)
 have hwn:¬s.w=0:=by omega
 have hwz:(s.w ==0)=false:=by rw [beq_eq_false_iff_ne];omega
 have hlt9:∀ k,¬m.length+k<m.length:=fun k=>by omega
 have e24:¬(0:Int)<f:=by omega
 have U9:=ca4 @Jg0 @Jf6 @Jf9 (ca4 @Ja5 e24 hwn (ca2 hwz wn))
 refine AW.c 1 U9 Tru ?_
 refine AW.anyMemG (fun m1=>(∃ L,m1=m++L)/\MWf m1.length m1/\m1[m.length]?=some ⟨.fix,52,0,0,scC s R⟩/\m1[m.length+1]?=some ⟨.fix,102,0,0,[.int .i64 0,.int .i64 0,.nils,.nils,.nils,.nils,.nils,.nils]⟩) ⟨⟨_,rfl⟩,?_,?_,?_⟩ fun m1 hm1=>?_
 · exact MWf.app (hwf.grow (by simp)) (Ja0 (hR.bel _ (by simp)) (Ja0 rfl Jb3))
 · rw [Jn8];rfl
 · rw [Jf3];rfl
 obtain ⟨hmx1,hwf1,hb1,hz1⟩:=hm1
 have hR1:ScR 140 119 223 148 155 m1 s R:=by obtain ⟨L,e⟩:=hmx1;rw [e];exact hR.app _
 have lb1:=Ja7 hb1
 have lz1:=Ja7 hz1
 obtain ⟨L9,p,E,hrd,hS,hw9⟩:=Qa4 s R f m1 hR1 hc h0 h1
 obtain ⟨a,ha⟩:∃ a,Jg7 s (f*65536)=a:=⟨_,rfl⟩
 obtain ⟨b,hb⟩:∃ b,Jg7 s (f*65536+s.sh)=b:=⟨_,rfl⟩
 rw [ha,hb] at hS
 obtain ⟨m2,hm2⟩:∃ z,m1++L9=z:=⟨_,rfl⟩
 have hb2:m2[m.length]?=some ⟨.fix,52,0,0,scC s R⟩:=by rw [<-hm2];exact Ja4 hb1 _
 have hz2:m2[m.length+1]?=some ⟨.fix,102,0,0,[.int .i64 0,.int .i64 0,.nils,.nils,.nils,.nils,.nils,.nils]⟩:=by rw [<-hm2];exact Ja4 hz1 _
 have hR2:ScR 140 119 223 148 155 m2 s R:=by rw [<-hm2];exact hR1.app _
 have hwf2:MWf m2.length m2:=by rw [<-hm2];exact hw9 hwf1
 have hmx2:∃ X,m2=m++X:=by obtain ⟨X,e⟩:=hmx1;exact ⟨_,by rw [<-hm2,e,List.append_assoc]⟩
 rw [hm2] at hS hrd
 have lb2:=Ja7 hb2
 have lz2:=Ja7 hz2
 have U10:=ca4 U9 hb1 (Ja4 hb1) (ca2 hz1 (Ja4 hz1))
 refine AW.w 6 U10 hrd ?_
 have U11:=ca4 U10 hb2 (Ja4 hb2) (ca2 hz2 (Ja4 hz2))
 refine AW.w 6 U11 Tru ?_
 refine AW.anyMemG (fun m5=>(∃ X,m5=m++X)/\MWf m5.length m5/\m5[m.length]?=some ⟨.fix,52,0,0,scC s R⟩/\m5[m.length+1]?=some ⟨.fix,102,0,0,[.int .i64 0,.int .i64 0,.nils,.nils,.nils,.nils,.nils,.nils]⟩/\SetAt m5 p s R f E a b) ⟨hmx2,hwf2,hb2,hz2,hS⟩ fun m5 hm5=>?_
 obtain ⟨hmx5,hwf5,hb5,hz5,hS5⟩:=hm5
 have lb5:=Ja7 hb5
 have lz5:=Ja7 hz5
 have lp5:=Ja7 hS5.hp
 have U12:=ca4 U11 hb5 (Ja4 hb5) (ca2 hz5 (Ja4 hz5))
 refine AW.c 1 U12 Tru ?_
 refine AW.q fun K J0=>?_
 refine AW.sr 1 fun K J1=>?_
 simp only [push_cast,simprocAttr,U12]
 refine CThen.by (Qn8 s.w s.h n _ (by rw [hWH];exact wn)) ?_
 simp only [push_cast,simprocAttr,U12]
 refine AW.w 2 Tru Tru ?_
 refine AW.nilCell 42 3 (m5.length) 2 (by simp only [push_cast,simprocAttr,U12];first|done|rfl) (by intro e;cases e) rfl ?_
 try simp only [push_cast,simprocAttr,U12]
 refine AW.nilCell 40 1 (m5.length) 3 (by simp only [push_cast,simprocAttr,U12];first|done|rfl) (by intro e;cases e) rfl ?_
 try simp only [push_cast,simprocAttr,U12]
 refine AW.nilCell 59 3 (m5.length) 4 (by simp only [push_cast,simprocAttr,U12];first|done|rfl) (by intro e;cases e) rfl ?_
 try simp only [push_cast,simprocAttr,U12]
 refine AW.nilCell 42 3 (m5.length) 5 (by simp only [push_cast,simprocAttr,U12];first|done|rfl) (by intro e;cases e) rfl ?_
 try simp only [push_cast,simprocAttr,U12]
 refine AW.nilCell 3 1 (m5.length) 6 (by simp only [push_cast,simprocAttr,U12];first|done|rfl) (by intro e;cases e) rfl ?_
 try simp only [push_cast,simprocAttr,U12]
 refine AW.nilCell 3 1 (m5.length) 7 (by simp only [push_cast,simprocAttr,U12];first|done|rfl) (by intro e;cases e) rfl ?_
 try simp only [push_cast,simprocAttr,U12]
 refine AW.loopK [2,4,6,8,10,50] (fun i=>i<=n) (fun i=>[(51,.one (.int .i64 ((i:Int))))]) (fun i=>[(m5.length,⟨.fix,102,0,0,[.int .i64 s.w,.int .i64 s.h,.sl (m5.length+1) i 0 i,.sl (m5.length+2) i 0 i,.sl (m5.length+3) i 0 i,.sl (m5.length+4) i 0 i,.sl (m5.length+5) i 0 i,.sl (m5.length+6) i 0 i]⟩),(m5.length+1,⟨.grow,42,i,3,dl i (gL s f W)⟩),(m5.length+2,⟨.grow,40,i,1,il i (gD s f W)⟩),(m5.length+3,⟨.grow,59,i,3,dl i (gN s f W)⟩),(m5.length+4,⟨.grow,42,i,3,dl i (gB s f W)⟩),(m5.length+5,⟨.grow,3,i,1,il i (gS s f W)⟩),(m5.length+6,⟨.grow,3,i,1,il i (gF s f W)⟩)]) (fun i=>n - i) 0 (by omega) ?_ ?_ fun i hi4=>?_
 · first|rfl|(simp only [KS,simprocAttr,dl,il,Int.natCast_zero]<;>repeat' (first|rfl|apply And.intro))
 · (simp only [Ja2,push_cast,simprocAttr,dl,il])<;>rfl
 try simp only [Ja9,Ja2,push_cast,simprocAttr,U12]
 refine AW.w 2 U12 Tru fun K J1=>?_
 refine AW.cond rfl (fun h52=>?_) (fun h52=>?_)
 ·have hlt:i<n:=by have:=of_decide_eq_true h52;omega
  have c1:(0:Int)<=(i:Int):=by omega
  have hd1:i / W<H:=Nat.div_lt_of_lt_mul (by rw [Nat.mul_comm,<-hn];exact hlt)
  have hd2:i%W<W:=Nat.mod_lt _ hW0
  have r1:(i:Int).tmod s.w=((i%W:Nat):Int):=by rw [hW,Int.tmod_eq_emod_of_nonneg (by omega)];rfl
  have r2:(i:Int).tdiv s.w=((i / W:Nat):Int):=by rw [hW,Int.tdiv_eq_ediv_of_nonneg (by omega)];rfl
  obtain ⟨T9,hT9⟩:∃ z,pxS s f W i=z:=⟨_,rfl⟩
  have hTc:=Jx3 T9
  obtain ⟨y9,hy9⟩:∃ z,gF s f W i=z:=⟨_,rfl⟩
  have q1:i+1<=140737488355328:=by omega
  have q2:(i+1)*24<=140737488355328:=by omega
  have q3:(i+1)*8<=140737488355328:=by omega
  have gl0:=Jc3 i (gL s f W)
  have gl1:=Jc9 i (gD s f W)
  have gl2:=Jc3 i (gN s f W)
  have gl3:=Jc3 i (gB s f W)
  have gl4:=Jc9 i (gS s f W)
  have gl5:=Jc9 i (gF s f W)
  have hp0:dl i (gL s f W)++[.int .i64 (T9.li 0),.int .i64 (T9.li 1),.int .i64 (T9.li 2)]=dl (i+1) (gL s f W):=by rw [<-hT9];rfl
  have hp1:il i (gD s f W)++[.int .i64 T9.dep]=il (i+1) (gD s f W):=by rw [<-hT9];rfl
  have hp2:dl i (gN s f W)++[.int .i64 (T9.no 0),.int .i64 (T9.no 1),.int .i64 (T9.no 2)]=dl (i+1) (gN s f W):=by rw [<-hT9];rfl
  have hp3:dl i (gB s f W)++[.int .i64 (T9.ba 0),.int .i64 (T9.ba 1),.int .i64 (T9.ba 2)]=dl (i+1) (gB s f W):=by rw [<-hT9];rfl
  have hp4:il i (gS s f W)++[.int .i64 T9.sh]=il (i+1) (gS s f W):=by rw [<-hT9];rfl
  have hp5:il i (gF s f W)++[.int .i64 y9]=il (i+1) (gF s f W):=by rw [<-hy9];rfl
  have hTp:Qv0 s f a b ((i%W:Nat):Int) ((i / W:Nat):Int)=T9:=by rw [<-hT9,<-ha,<-hb];rfl
  obtain ⟨X9,hX9⟩:∃ z:Nat,i%W=z:=⟨_,rfl⟩
  obtain ⟨Y9,hY9⟩:∃ z:Nat,i / W=z:=⟨_,rfl⟩
  rw [hX9] at r1 hd2
  rw [hY9] at r2 hd1
  rw [hX9,hY9] at hTp
  have r3:IntKind.i64.wrap (X9:Int)=(X9:Int):=wi (by omega)
  have r4:IntKind.i64.wrap (Y9:Int)=(Y9:Int):=wi (by omega)
  refine AW.w 4 Tru Tru fun K J1=>?_
  have U13:=ca4 U12 r1 r2 (ca4 r3 r4 c1 (ca4 hTc q1 q2 (ca4 q3 gl0 gl1 (ca4 gl2 gl3 gl4 gl5))))
  refine AW.c 1 U13 Tru ?_
  have q_4:=fun M hS=>Vc5 s R f E a b p (X9:Int) (Y9:Int) M hS (by omega) (by omega) (by omega) (by omega)
  rw [hTp,hTc] at q_4
  refine AW.wd [[.val,.val,.val,.val,.rd 0,.val,.val,.val,.val,.rd 0,.val,.ext,.fl,.wr]] 6 U13 (q_4 _ (hS5.app _)) ?_
  have q_5:=Xn6 s f W i (.ptr p 0 0)
  rw [hT9,hTc,hy9] at q_5
  refine AW.wd [[.val,.rd 0,.val,.val,.rd 0,.ext,.ext,.wr,.val,.wr]] 3 U13 (q_5 _ hf) ?_
  have hwi:IntKind.i64.wrap ((i:Int)+1)=(i:Int)+1:=wi (by omega)
  refine ⟨i+1,by omega,by omega,?_⟩
  try simp only [Ja9,Ja2,push_cast,simprocAttr,U13,hwi,hp0,hp1,hp2,hp3,hp4,hp5]
  exact Weak.to (extra:=_) (by simp only [KS,simprocAttr,hwi,hp0,hp1,hp2,hp3,hp4,hp5]) (by first|rfl|(simp only [List.append_assoc,List.cons_append,List.nil_append];rfl)) (by first|rfl|(simp [AV.below,CV.below];done)|(simp [AV.below,CV.below];omega)) (by exact MWf.app (hwf5.grow (by simp)) (Ja0 (by simp [CV.below]) (Ja0 (Je5 _ _ _) (Ja0 (Jf1 _ _ _) (Ja0 (Je5 _ _ _) (Ja0 (Je5 _ _ _) (Ja0 (Jf1 _ _ _) (Ja0 (Jf1 _ _ _) Jb3))))))))
 have hin:i=n:=by have:=of_decide_eq_false h52;omega
 rw [hin]
 refine AW.w 2 Tru Tru ?_
 obtain ⟨M6,hM6⟩:∃ M,m5.set (m.length+1) ⟨.fix,102,0,0,[.int .i64 s.w,.int .i64 s.h,.sl (m5.length+1) n 0 n,.sl (m5.length+2) n 0 n,.sl (m5.length+3) n 0 n,.sl (m5.length+4) n 0 n,.sl (m5.length+5) n 0 n,.sl (m5.length+6) n 0 n]⟩=M:=⟨_,rfl⟩
 have hs6:∀ L,(m5++L).set (m.length+1) ⟨.fix,102,0,0,[.int .i64 s.w,.int .i64 s.h,.sl (m5.length+1) n 0 n,.sl (m5.length+2) n 0 n,.sl (m5.length+3) n 0 n,.sl (m5.length+4) n 0 n,.sl (m5.length+5) n 0 n,.sl (m5.length+6) n 0 n]⟩=M6++L:=fun L=>by rw [<-hM6,List.set_append_left _ _ lz5]
 have hl6:M6[m.length+1]?=some ⟨.fix,102,0,0,[.int .i64 s.w,.int .i64 s.h,.sl (m5.length+1) n 0 n,.sl (m5.length+2) n 0 n,.sl (m5.length+3) n 0 n,.sl (m5.length+4) n 0 n,.sl (m5.length+5) n 0 n,.sl (m5.length+6) n 0 n]⟩:=by rw [<-hM6,List.getElem?_set_self lz5]
 have hn6:M6.length=m5.length:=by rw [<-hM6,List.length_set]
 have hmx6:∃ X,M6=m++X:=by
   obtain ⟨X,e⟩:=hmx5
   exact ⟨X.set 1 ⟨.fix,102,0,0,[.int .i64 s.w,.int .i64 s.h,.sl (m5.length+1) n 0 n,.sl (m5.length+2) n 0 n,.sl (m5.length+3) n 0 n,.sl (m5.length+4) n 0 n,.sl (m5.length+5) n 0 n,.sl (m5.length+6) n 0 n]⟩,by rw [<-hM6,e,List.set_append_right _ _ (by omega),show m.length+1 - m.length=1 by omega]⟩
 have hle5:m.length<=m5.length:=by
   obtain ⟨X,e⟩:=hmx5
   rw [e,List.length_append];omega
 have hlt5:∀ k,¬m5.length+k<m.length:=fun k=>by
   obtain ⟨X,e⟩:=hmx5
   rw [e,List.length_append];omega
 have U14:=ca4 U12 hs6 hl6 (ca2 (Ja4 hl6) hn6)
 refine AW.w 2 U14 Tru ?_
 refine hQ _ _ _ ?_
 refine Xx4 hmx6 [(m5.length+1,n),(m5.length+2,n),(m5.length+3,n),(m5.length+4,n),(m5.length+5,n),(m5.length+6,n)] (by first|exact Or.inr rfl|exact Or.inl rfl) ?_ ?_ ?_ hwf ?_
 · simp only [Je0,Jb1,Jb9,AV.tv,push_cast,simprocAttr,hl6,Ja4 hl6,hn6]
   simp [Kg3,Km1,Ka4,Jt4,Jh0,hlt9,hlt5]
 · rw [<-hn6];simp only [Jm8,push_cast,simprocAttr]
 · simp [Jc2];omega
 repeat (first|exact Jb3|(refine Ja0 ?_ ?_;· first|exact Je5 _ _ _|exact Jf1 _ _ _))
theorem Vg1 (s:SC)(R:RWs)(f:Int)(m:Ja1)(hR:ScR 140 119 223 148 155 m s R)(hc:(Ji5 s).1=0)(h0:0<=f)(h1:f<s.fr)(W H n:Nat)(hW:s.w=(W:Int))(hH:s.h=(H:Int))(hn:n=H*W):Ctr Tryz.prog 27 [.agg (scC s R),.one (.int .i64 f)] m (.tup [(true,[.int .i64 s.w,.int .i64 s.h,.sl m.length 0 0 n,.sl (m.length+1) 0 0 n,.sl (m.length+2) 0 0 n,.sl (m.length+3) 0 0 n,.sl (m.length+4) 0 0 n,.sl (m.length+5) 0 0 n]),(false,[.int .i64 0])]) (m++[⟨.grow,42,0,3,dl n (gL s f W)⟩,⟨.grow,40,0,1,il n (gD s f W)⟩,⟨.grow,59,0,3,dl n (gN s f W)⟩,⟨.grow,42,0,3,dl n (gB s f W)⟩,⟨.grow,3,0,1,il n (gS s f W)⟩,⟨.grow,3,0,1,il n (gF s f W)⟩]):=by
 by_cases hf:f=0
 ·exact Vg3 s R f m hR hc h0 h1 hf W H n hW hH hn
 exact Vg2 s R f m hR hc h0 h1 hf W H n hW hH hn
theorem Qz9 (s:SC)(R:RWs)(f:Int)(m:Ja1)(hR:ScR 138 143 285 146 150 m s R)(hG:GoS s)(hT:∀ i,i<s.nt->TrS s i)(hJ:∀ i,i<s.nj->JoR s i)(hX:∀ i,i<s.nx->-1<=s.xj i/\s.xj i<(s.nj:Int))(hE:s.ey<(s.nt:Int))(hL:s.lk<(s.nt:Int))(hf:0<=f/\f<=1000000)(W H n:Nat)(hW:s.w=(W:Int))(hH:s.h=(H:Int))(hn:n=H*W):Ctr Tryz.prog 30 [.agg (scC s R),.one (.int .i64 f)] m (.agg [.int .i64 s.w,.int .i64 s.h,.sl m.length 0 0 n,.sl (m.length+1) 0 0 n,.sl (m.length+2) 0 0 n,.sl (m.length+3) 0 0 n,.sl (m.length+4) 0 0 n,.sl (m.length+5) 0 0 n]) (m++[⟨.grow,24,0,3,dl n (gL s f W)⟩,⟨.grow,2,0,1,il n (gD s f W)⟩,⟨.grow,54,0,3,dl n (gN s f W)⟩,⟨.grow,24,0,3,dl n (gB s f W)⟩,⟨.grow,3,0,1,il n (gS s f W)⟩,⟨.grow,3,0,1,il n (gF s f W)⟩]):=by
 refine Ctr.en Tryz.func30 [.cell 4 112] 83 fun hwf Q hQ=>?_
 have hgw:=hG.w
 have hgh:=hG.h
 have hWH:s.w*s.h=(n:Int):=by rw [hW,hH,hn,Int.mul_comm];push_cast;rfl
 have hW0:0<W:=by omega
 have hH0:0<H:=by omega
 have hn0:0<n:=by rw [hn];exact Nat.mul_pos hH0 hW0
 have hn9:n<=4096:=by rw [hn];exact Nat.le_trans (Nat.mul_le_mul (show H<=64 by omega) (show W<=64 by omega)) (by omega)
 have wn:IntKind.i64.wrap (n:Int)=(n:Int):=wi (by omega)
 have hwn:¬s.w=0:=by omega
 have hwz:(s.w ==0)=false:=by rw [beq_eq_false_iff_ne];omega
 have hlt9:∀ k,¬m.length+k<m.length:=fun k=>by omega
 obtain ⟨a,ha⟩:∃ a,Jg7 s (f*65536)=a:=⟨_,rfl⟩
 obtain ⟨b,hb⟩:∃ b,Jg7 s (f*65536+s.sh)=b:=⟨_,rfl⟩
 have U1:=ca4 @Jg0 @Jf6 @Jf9 @Ja5
 refine AW.w 5 U1 Tru fun K J0=>?_
 refine AW.nilCell 24 3 (m.length+2) 2 (by simp only [push_cast,simprocAttr,U1];first|done|rfl) (by intro e;cases e) rfl ?_
 try simp only [push_cast,simprocAttr,U1]
 refine AW.nilCell 2 1 (m.length+2) 3 (by simp only [push_cast,simprocAttr,U1];first|done|rfl) (by intro e;cases e) rfl ?_
 try simp only [push_cast,simprocAttr,U1]
 refine AW.nilCell 54 3 (m.length+2) 4 (by simp only [push_cast,simprocAttr,U1];first|done|rfl) (by intro e;cases e) rfl ?_
 try simp only [push_cast,simprocAttr,U1]
 refine AW.nilCell 24 3 (m.length+2) 5 (by simp only [push_cast,simprocAttr,U1];first|done|rfl) (by intro e;cases e) rfl ?_
 try simp only [push_cast,simprocAttr,U1]
 refine AW.nilCell 3 1 (m.length+2) 6 (by simp only [push_cast,simprocAttr,U1];first|done|rfl) (by intro e;cases e) rfl ?_
 try simp only [push_cast,simprocAttr,U1]
 refine AW.nilCell 3 1 (m.length+2) 7 (by simp only [push_cast,simprocAttr,U1];first|done|rfl) (by intro e;cases e) rfl ?_
 try simp only [push_cast,simprocAttr,U1]
 refine AW.loopK [1,2,4,5] (fun y=>y<=H) (fun y=>[(6,.one (.int .i64 ((y:Int))))]) (fun y=>[(m.length+2,⟨.fix,112,0,0,[.int .i64 s.w,.int .i64 s.h,.sl (m.length+2+1) (y*W) 0 (y*W),.sl (m.length+2+2) (y*W) 0 (y*W),.sl (m.length+2+3) (y*W) 0 (y*W),.sl (m.length+2+4) (y*W) 0 (y*W),.sl (m.length+2+5) (y*W) 0 (y*W),.sl (m.length+2+6) (y*W) 0 (y*W)]⟩),(m.length+3,⟨.grow,24,(y*W),3,dl (y*W) (gL s f W)⟩),(m.length+4,⟨.grow,2,(y*W),1,il (y*W) (gD s f W)⟩),(m.length+5,⟨.grow,54,(y*W),3,dl (y*W) (gN s f W)⟩),(m.length+6,⟨.grow,24,(y*W),3,dl (y*W) (gB s f W)⟩),(m.length+7,⟨.grow,3,(y*W),1,il (y*W) (gS s f W)⟩),(m.length+8,⟨.grow,3,(y*W),1,il (y*W) (gF s f W)⟩)]) (fun y=>H - y) 0 (by omega) ?_ ?_ fun y hi2=>?_
 · first|rfl|(simp only [KS,simprocAttr,Nat.zero_mul,dl,il,Int.natCast_zero]<;>repeat' (first|rfl|apply And.intro))
 · (simp only [Ja2,push_cast,simprocAttr,Nat.zero_mul,dl,il])<;>rfl
 try simp only [Ja9,Ja2,push_cast,simprocAttr,U1]
 refine AW.w 2 U1 Tru fun K J1=>?_
 refine AW.cond rfl (fun h21=>?_) (fun h21=>?_)
 ·have hlty:y<H:=by have:=of_decide_eq_true h21;omega
  have eyW:y*W+W=(y+1)*W:=by rw [Nat.add_mul,Nat.one_mul]
  have hyn:(y+1)*W<=n:=by rw [hn];exact Nat.mul_le_mul (by omega) (Nat.le_refl _)
  refine AW.w 6 U1 Tru fun K J1=>?_
  refine AW.loopK [1,2,4,5,6] (fun x=>x<=W) (fun x=>[(7,.one (.int .i64 ((x:Int))))]) (fun x=>[(m.length+2,⟨.fix,112,0,0,[.int .i64 s.w,.int .i64 s.h,.sl (m.length+2+1) (y*W+x) 0 (y*W+x),.sl (m.length+2+2) (y*W+x) 0 (y*W+x),.sl (m.length+2+3) (y*W+x) 0 (y*W+x),.sl (m.length+2+4) (y*W+x) 0 (y*W+x),.sl (m.length+2+5) (y*W+x) 0 (y*W+x),.sl (m.length+2+6) (y*W+x) 0 (y*W+x)]⟩),(m.length+3,⟨.grow,24,(y*W+x),3,dl (y*W+x) (gL s f W)⟩),(m.length+4,⟨.grow,2,(y*W+x),1,il (y*W+x) (gD s f W)⟩),(m.length+5,⟨.grow,54,(y*W+x),3,dl (y*W+x) (gN s f W)⟩),(m.length+6,⟨.grow,24,(y*W+x),3,dl (y*W+x) (gB s f W)⟩),(m.length+7,⟨.grow,3,(y*W+x),1,il (y*W+x) (gS s f W)⟩),(m.length+8,⟨.grow,3,(y*W+x),1,il (y*W+x) (gF s f W)⟩)]) (fun x=>W - x) 0 (by omega) ?_ ?_ fun x hi5=>?_
  · first|rfl|(simp only [KS,simprocAttr,Nat.add_zero,Int.natCast_zero]<;>repeat' (first|rfl|apply And.intro))
  · (simp only [Ja2,push_cast,simprocAttr,Nat.add_zero])<;>rfl
  try simp only [Ja9,Ja2,push_cast,simprocAttr,U1]
  refine AW.w 2 U1 Tru fun K J2=>?_
  refine AW.cond rfl (fun h28=>?_) (fun h28=>?_)
  ·have hltx:x<W:=by have:=of_decide_eq_true h28;omega
   have hin9:y*W+x<n:=by omega
   obtain ⟨i,hi9⟩:∃ z,y*W+x=z:=⟨_,rfl⟩
   have d1:i%W=x:=by rw [<-hi9,Nat.mul_comm,Nat.mul_add_mod,Nat.mod_eq_of_lt hltx]
   have d2:i / W=y:=by rw [<-hi9,Nat.mul_comm,Nat.mul_add_div hW0,Nat.div_eq_of_lt hltx,Nat.add_zero]
   rw [<-hi9] at d1 d2
   obtain ⟨T9,hT9⟩:∃ z,pxS s f W (y*W+x)=z:=⟨_,rfl⟩
   have hTc:=Jx3 T9
   obtain ⟨y9,hy9⟩:∃ z,gF s f W (y*W+x)=z:=⟨_,rfl⟩
   have q1:y*W+(x+1)<=140737488355328:=by omega
   have q2:(y*W+(x+1))*24<=140737488355328:=by omega
   have q3:(y*W+(x+1))*8<=140737488355328:=by omega
   have gl0:=Jc3 (y*W+x) (gL s f W)
   have gl1:=Jc9 (y*W+x) (gD s f W)
   have gl2:=Jc3 (y*W+x) (gN s f W)
   have gl3:=Jc3 (y*W+x) (gB s f W)
   have gl4:=Jc9 (y*W+x) (gS s f W)
   have gl5:=Jc9 (y*W+x) (gF s f W)
   have hp0:dl (y*W+x) (gL s f W)++[.int .i64 (T9.li 0),.int .i64 (T9.li 1),.int .i64 (T9.li 2)]=dl (y*W+(x+1)) (gL s f W):=by rw [<-hT9];rfl
   have hp1:il (y*W+x) (gD s f W)++[.int .i64 T9.dep]=il (y*W+(x+1)) (gD s f W):=by rw [<-hT9];rfl
   have hp2:dl (y*W+x) (gN s f W)++[.int .i64 (T9.no 0),.int .i64 (T9.no 1),.int .i64 (T9.no 2)]=dl (y*W+(x+1)) (gN s f W):=by rw [<-hT9];rfl
   have hp3:dl (y*W+x) (gB s f W)++[.int .i64 (T9.ba 0),.int .i64 (T9.ba 1),.int .i64 (T9.ba 2)]=dl (y*W+(x+1)) (gB s f W):=by rw [<-hT9];rfl
   have hp4:il (y*W+x) (gS s f W)++[.int .i64 T9.sh]=il (y*W+(x+1)) (gS s f W):=by rw [<-hT9];rfl
   have hp5:il (y*W+x) (gF s f W)++[.int .i64 y9]=il (y*W+(x+1)) (gF s f W):=by rw [<-hy9];rfl
   have hTp:Qv0 s f a b (x:Int) (y:Int)=T9:=by rw [<-hT9,<-ha,<-hb];unfold pxS;rw [d1,d2]
   refine AW.w 4 Tru Tru fun K J2=>?_
   have q_1:=fun M hR=>Vo4 s R f (x:Int) (y:Int) M hR hG hT hJ hX hE hL hf (by omega) (by omega) (by omega) (by omega)
   rw [ha,hb,hTp,hTc] at q_1
   have U2:=ca4 U1 hTc q1 (ca4 q2 q3 gl0 (ca4 gl1 gl2 gl3 (ca2 gl4 gl5)))
   refine AW.c 6 U2 (q_1 _ (hR.app _)) ?_
   have q_2:=fun M hR=>Xh4 s R f W (y*W+x) M hR hG hT hJ hX hE hL hf
   rw [hT9,hTc,hy9] at q_2
   refine AW.wd [[.val,.rd 0,.rd 0,.val,.rd 0,.ext,.ext,.wr,.val,.wr]] 3 U2 (q_2 _ (hR.app _)) ?_
   have hwx:IntKind.i64.wrap ((x:Int)+1)=(x:Int)+1:=wi (by omega)
   have ex1:y*W+(x+1)=y*W+x+1:=by omega
   refine ⟨x+1,by omega,by omega,?_⟩
   try simp only [Ja9,Ja2,push_cast,simprocAttr,U2,hwx,hp0,hp1,hp2,hp3,hp4,hp5]
   exact Weak.to (extra:=_) (by simp only [KS,simprocAttr,hwx,hp0,hp1,hp2,hp3,hp4,hp5]) (by first|rfl|(simp only [List.append_assoc,List.cons_append,List.nil_append];rfl)) (by first|rfl|(simp [AV.below,CV.below];done)|(simp [AV.below,CV.below];omega)) (by exact MWf.app (hwf.grow (by simp)) (Ja0 (hR.bel _ (by simp)) (Ja0 rfl (Ja0 (by simp [CV.below]) (Ja0 (Je5 _ _ _) (Ja0 (Jf1 _ _ _) (Ja0 (Je5 _ _ _) (Ja0 (Je5 _ _ _) (Ja0 (Jf1 _ _ _) (Ja0 (Jf1 _ _ _) Jb3))))))))))
  have hin:x=W:=by have:=of_decide_eq_false h28;omega
  rw [hin]
  refine AW.w 3 U1 Tru ?_
  have hwy:IntKind.i64.wrap ((y:Int)+1)=(y:Int)+1:=wi (by omega)
  refine ⟨y+1,by omega,by omega,?_⟩
  try simp only [Ja9,Ja2,push_cast,simprocAttr,U1,hwy,eyW]
  exact Weak.to (extra:=_) (by simp only [KS,simprocAttr,hwy,eyW]) (by first|rfl|(simp only [List.append_assoc,List.cons_append,List.nil_append];rfl)) (by first|rfl|(simp [AV.below,CV.below];done)|(simp [AV.below,CV.below];omega)) (by exact MWf.app (hwf.grow (by simp)) (Ja0 (hR.bel _ (by simp)) (Ja0 rfl (Ja0 (by simp [CV.below]) (Ja0 (Je5 _ _ _) (Ja0 (Jf1 _ _ _) (Ja0 (Je5 _ _ _) (Ja0 (Je5 _ _ _) (Ja0 (Jf1 _ _ _) (Ja0 (Jf1 _ _ _) Jb3))))))))))
 have hin:y=H:=by have:=of_decide_eq_false h21;omega
 rw [hin,<-hn]
 refine AW.w 4 U1 Tru ?_
 refine hQ _ _ _ ?_
 refine RetP.pick [(m.length+3,n),(m.length+4,n),(m.length+5,n),(m.length+6,n),(m.length+7,n),(m.length+8,n)] (by first|exact Or.inr rfl|exact Or.inl rfl) ?_ ?_ ?_ hwf ?_
 · simp only [Je0,Jb1,Jb9,AV.tv,push_cast,simprocAttr]
   simp [Kg3,Km1,Ka4,Jt4,Jh0,hlt9]
 · simp only [Jm8,push_cast,simprocAttr]
 · simp [Jc2]
 repeat (first|exact Jb3|(refine Ja0 ?_ ?_;· first|exact Je5 _ _ _|exact Jf1 _ _ _))
theorem Kw7 (s:SC)(R:RWs)(fm:Int)(m:Ja1)(hR:ScR 138 143 285 146 150 m s R)(hL:¬LtR s):Ctr Tryz.prog 7 [.agg (scC s R),.one (.int .i64 fm)] m (.one (.bool true)) m:=by
 have U1:=ca4 @Jg0 @Jf6 @Jf9 @Ja5
 exact Ctr.f Tryz.func7 [.tmp 4] 58 U1 (ca2 (l17_f s R _ (hR.app _) hL) Qd5)
theorem Kw6 (s:SC)(R:RWs)(fm:Int)(m:Ja1)(hR:ScR 138 143 285 146 150 m s R)(hL:LtR s):Ctr Tryz.prog 7 [.agg (scC s R),.one (.int .i64 fm)] m (.one (.bool true)) m:=by
 refine Ctr.en Tryz.func7 [.tmp 4] 58 fun hwf Q hQ=>?_
 obtain ⟨hG,hC0⟩:=Js4 hL.ck
 have hg:=Qc1 hG
 have hgw:=hg.w
 have hgh:=hg.h
 have hgf:=hg.fr
 have hsh:=hg.sh
 have hT:=hG.tr
 have hJ:=hG.jo
 have hX:=hG.xj
 have hE:=hG.ey
 have hLK:=hG.lk
 obtain ⟨Vf,hVf⟩:∃ z,IntKind.u64.wrap fm=z:=⟨_,rfl⟩
 have hVbf:0<=Vf/\Vf<18446744073709551616:=by rw [<-hVf,IntKind.wrap_u64];omega
 obtain ⟨Ff,hFf⟩:∃ z,Vf%s.fr=z:=⟨_,rfl⟩
 have m1f:=Int.emod_nonneg Vf (show s.fr≠0 by omega)
 have m2f:=Int.emod_lt_of_pos Vf (show 0<s.fr by omega)
 rw [hFf] at m1f m2f
 have q4f:IntKind.u64.wrap s.fr=s.fr:=by rw [IntKind.wrap_u64];omega
 have q5f:Vf.tmod s.fr=Ff:=by rw [Int.tmod_eq_emod_of_nonneg (by omega),hFf]
 have q6f:IntKind.u64.wrap Ff=Ff:=by rw [IntKind.wrap_u64];omega
 have q7f:IntKind.i64.wrap Ff=Ff:=wi (by omega)
 have q8f:¬s.fr=0:=by omega
 have q9f:(s.fr ==0)=false:=by rw [beq_eq_false_iff_ne];omega
 obtain ⟨W,hW⟩:∃ W:Nat,s.w=(W:Int):=⟨s.w.toNat,by omega⟩
 obtain ⟨H,hH⟩:∃ H:Nat,s.h=(H:Int):=⟨s.h.toNat,by omega⟩
 obtain ⟨n,hn⟩:∃ n:Nat,n=H*W:=⟨_,rfl⟩
 have hWH:s.w*s.h=(n:Int):=by rw [hW,hH,hn,Int.mul_comm];push_cast;rfl
 have hW0:0<W:=by omega
 have hH0:0<H:=by omega
 have hn0:0<n:=by rw [hn];exact Nat.mul_pos hH0 hW0
 have hn9:n<=4096:=by rw [hn];exact Nat.le_trans (Nat.mul_le_mul (show H<=64 by omega) (show W<=64 by omega)) (by omega)
 have wn:IntKind.i64.wrap (n:Int)=(n:Int):=wi (by omega)
 have hwn:¬s.w=0:=by omega
 have hwz:(s.w ==0)=false:=by rw [beq_eq_false_iff_ne];omega
 have bq:∀ z:Int,(z ==z)=true:=fun z=>beq_self_eq_true z
 have hall:∀ i,i<n->¬gS s Ff W i < -1/\¬128<=gS s Ff W i/\¬gF s Ff W i < -1/\¬(n:Int)<=gF s Ff W i:=fun i _=>by
   have b1:=gS_b (s:=s) (f:=Ff) (W:=W) (i:=i) hG.x
   have b2:=gF_b (s:=s) (f:=Ff) (W:=W) (i:=i) hgw.1 hgw.2 hgh.1 hgh.2 hWH
   exact ⟨b1.1,b1.2,b2.1,b2.2⟩
 refine AW.sr 1 fun K J0=>?_
 have U2:=ca4 hWH wn bq (ca4 hVf q4f q5f (ca4 q6f q7f q8f q9f))
 simp only [push_cast,simprocAttr,scC,hdC,tlC,c3C,U2]
 apply J0
 refine AW.q fun K J0=>?_
 refine AW.sr 1 fun K J1=>?_
 simp only [push_cast,simprocAttr,scC,hdC,tlC,c3C,U2]
 refine CThen.by (l17_t s R _ (hR.app _) hL) ?_
 simp only [push_cast,simprocAttr,scC,hdC,tlC,c3C,U2]
 refine AW.w 4 Tru Tru ?_
 refine AW.sr 1 fun K J0=>?_
 simp only [push_cast,simprocAttr,scC,hdC,tlC,c3C,U2]
 apply J0
 refine AW.anyMemG (fun m1=>(∃ L,m1=m++(⟨.fix,32,0,0,scC s R⟩::L))/\MWf m1.length m1) ⟨⟨[],by (try simp only [scC,hdC,tlC,c3C]);rfl⟩,MWf.app (hwf.grow (by simp)) (Ja0 (hR.bel _ (by simp)) Jb3)⟩ fun m1 hm1=>?_
 obtain ⟨⟨L1,hm1⟩,hwf1⟩:=hm1
 have hR1:ScR 138 143 285 146 150 m1 s R:=by rw [hm1];exact hR.app _
 have hb1:m1[m.length]?=some ⟨.fix,32,0,0,scC s R⟩:=by rw [hm1,Jn8];rfl
 have ll1:=Ja7 hb1
 obtain ⟨m2,hm2⟩:∃ z,m1++toB s R m1=z:=⟨_,rfl⟩
 have hto:=to_c s R m1 hR1 hL.sm
 rw [hm2] at hto
 have hP2:=Vx6 hR1
 rw [hm2] at hP2
 obtain ⟨R2,hR2⟩:∃ z,toR s m1.length=z:=⟨_,rfl⟩
 rw [hR2] at hto hP2
 have hwf2:MWf m2.length m2:=by rw [<-hm2];exact Vx7 hR1 hwf1
 have hb2:m2[m.length]?=some ⟨.fix,32,0,0,scC s R⟩:=by rw [<-hm2];exact Ja4 hb1 _
 have hmx2:∃ X,m2=m++X:=⟨_,by rw [<-hm2,hm1,List.append_assoc]⟩
 have ll2:=Ja7 hb2
 have hrd:=Vg1 s R2 Ff m2 hP2 hL.ck m1f m2f W H n hW hH hn
 refine AW.sr 1 fun K J0=>?_
 simp only [push_cast,simprocAttr,scC,hdC,tlC,c3C,U2,hb1,Ja4 hb1]
 refine CThen.by hto ?_
 simp only [push_cast,simprocAttr,scC,hdC,tlC,c3C,U2,hb1,Ja4 hb1]
 refine CThen.by hrd ?_
 simp only [push_cast,simprocAttr,scC,hdC,tlC,c3C,U2,hb1,Ja4 hb1]
 apply J0
 refine AW.q fun K J0=>?_
 refine AW.anyMemG (fun m3=>(∃ X,m3=m++X)/\MWf m3.length m3/\m3[m.length]?=some ⟨.fix,32,0,0,scC s R⟩/\m3[m2.length+6]?=some ⟨.fix,102,0,0,[.int .i64 s.w,.int .i64 s.h,.sl m2.length 0 0 n,.sl (m2.length+1) 0 0 n,.sl (m2.length+2) 0 0 n,.sl (m2.length+3) 0 0 n,.sl (m2.length+4) 0 0 n,.sl (m2.length+5) 0 0 n]⟩/\m3[m2.length]?=some ⟨.grow,42,0,3,dl n (gL s Ff W)⟩/\m3[(m2.length+1)]?=some ⟨.grow,40,0,1,il n (gD s Ff W)⟩/\m3[(m2.length+2)]?=some ⟨.grow,59,0,3,dl n (gN s Ff W)⟩/\m3[(m2.length+3)]?=some ⟨.grow,42,0,3,dl n (gB s Ff W)⟩/\m3[(m2.length+4)]?=some ⟨.grow,3,0,1,il n (gS s Ff W)⟩/\m3[(m2.length+5)]?=some ⟨.grow,3,0,1,il n (gF s Ff W)⟩) ⟨?_,?_,?_,?_,?_,?_,?_,?_,?_,?_⟩ fun m3 hm3=>?_
 · obtain ⟨X,e⟩:=hmx2;exact ⟨_,by rw [e,List.append_assoc]⟩
 · exact MWf.app (hwf2.grow (by simp)) (Ja0 (Je5 _ _ _) (Ja0 (Jf1 _ _ _) (Ja0 (Je5 _ _ _) (Ja0 (Je5 _ _ _) (Ja0 (Jf1 _ _ _) (Ja0 (Jf1 _ _ _) (Ja0 (by simp [CV.below]) Jb3)))))))
 · exact Ja4 hb2 _
 · rw [Jf3];rfl
 · rw [Jn8];rfl
 · rw [Jf3];rfl
 · rw [Jf3];rfl
 · rw [Jf3];rfl
 · rw [Jf3];rfl
 · rw [Jf3];rfl
 obtain ⟨hmx3,hwf3,hb3,hf3,hr0,hr1,hr2,hr3,hr4,hr5⟩:=hm3
 have hR3:ScR 138 143 285 146 150 m3 s R:=by obtain ⟨X,e⟩:=hmx3;rw [e];exact hR.app _
 have ll3:=Ja7 hb3
 have lf3:=Ja7 hf3
 have hto4:=to_c s R m3 hR3 hL.sm
 have hP4:=Vx6 hR3
 have hwf4:MWf (m3++toB s R m3).length (m3++toB s R m3):=Vx7 hR3 hwf3
 obtain ⟨X4,hX4⟩:∃ z,toB s R m3=z:=⟨_,rfl⟩
 obtain ⟨R4,hR4⟩:∃ z,toR s m3.length=z:=⟨_,rfl⟩
 rw [hX4,hR4] at hto4 hP4
 rw [hX4] at hwf4
 have hrd4:=Qg4 s R4 s.fr (m3++X4) hP4 hL.ck (.inr (Int.le_refl _))
 refine AW.draw [.rd 0,.ext,.val,.val,.rd 0,.ext,.val,.val,.val,.fl,.wr,.val] fol (by decide) (by kernel_rfl) ?_
 have U3:=ca4 U2 hb1 (Ja4 hb1) (ca4 hb3 (Ja4 hb3) hf3 (Ja4 hf3))
 simp only [push_cast,simprocAttr,scC,hdC,tlC,c3C,U3]
 refine DCall.by hto4 ?_
 simp only [push_cast,simprocAttr,scC,hdC,tlC,c3C,U3]
 refine DCall.z hrd4 ?_
 simp only [push_cast,simprocAttr,scC,hdC,tlC,c3C,U3]
 apply J0
 refine AW.q fun K J0=>?_
 refine AW.anyMemG (fun m5=>(∃ X,m5=m++X)/\MWf m5.length m5/\m5[m.length]?=some ⟨.fix,32,0,0,scC s R⟩/\m5[m2.length+6]?=some ⟨.fix,102,0,0,[.int .i64 s.w,.int .i64 s.h,.sl m2.length 0 0 n,.sl (m2.length+1) 0 0 n,.sl (m2.length+2) 0 0 n,.sl (m2.length+3) 0 0 n,.sl (m2.length+4) 0 0 n,.sl (m2.length+5) 0 0 n]⟩/\m5[m2.length]?=some ⟨.grow,42,0,3,dl n (gL s Ff W)⟩/\m5[(m2.length+1)]?=some ⟨.grow,40,0,1,il n (gD s Ff W)⟩/\m5[(m2.length+2)]?=some ⟨.grow,59,0,3,dl n (gN s Ff W)⟩/\m5[(m2.length+3)]?=some ⟨.grow,42,0,3,dl n (gB s Ff W)⟩/\m5[(m2.length+4)]?=some ⟨.grow,3,0,1,il n (gS s Ff W)⟩/\m5[(m2.length+5)]?=some ⟨.grow,3,0,1,il n (gF s Ff W)⟩) ⟨?_,?_,?_,?_,?_,?_,?_,?_,?_,?_⟩ fun m5 hm5=>?_
 · obtain ⟨X,e⟩:=hmx3;simp only [e,List.append_assoc];exact ⟨_,rfl⟩
 · first|exact MWf.app (hwf4.grow (by simp)) (Ja0 rfl Jb3)|(rw [<-List.append_assoc];exact MWf.app (hwf4.grow (by simp)) (Ja0 rfl Jb3))
 · first|exact Ja4 hb3 _|(rw [List.append_assoc];exact Ja4 hb3 _)
 · first|exact Ja4 hf3 _|(rw [List.append_assoc];exact Ja4 hf3 _)
 · first|exact Ja4 hr0 _|(rw [List.append_assoc];exact Ja4 hr0 _)
 · first|exact Ja4 hr1 _|(rw [List.append_assoc];exact Ja4 hr1 _)
 · first|exact Ja4 hr2 _|(rw [List.append_assoc];exact Ja4 hr2 _)
 · first|exact Ja4 hr3 _|(rw [List.append_assoc];exact Ja4 hr3 _)
 · first|exact Ja4 hr4 _|(rw [List.append_assoc];exact Ja4 hr4 _)
 · first|exact Ja4 hr5 _|(rw [List.append_assoc];exact Ja4 hr5 _)
 clear hr0 hr1 hr2 hr3 hr4 hr5
 obtain ⟨hmx,hwf5,hb5,hf5,hr0,hr1,hr2,hr3,hr4,hr5⟩:=hm5
 have hR5:ScR 138 143 285 146 150 m5 s R:=by obtain ⟨X,e⟩:=hmx;rw [e];exact hR.app _
 have ll5:=Ja7 hb5
 have lf5:=Ja7 hf5
 have lr4:=Ja7 hr4
 have lr5:=Ja7 hr5
 refine AW.draw [.ext,.val,.val,.val,.val,.val,.rd 1,.ext,.rd 1,.val,.ext,.ext,.val,.val,.rd 4,.ext,.val,.val,.val,.val,.val,.val] fol (by decide) (by kernel_rfl) ?_
 have U4:=ca4 U3 hb5 (Ja4 hb5) (ca2 hf5 (Ja4 hf5))
 simp only [push_cast,simprocAttr,scC,hdC,tlC,c3C,Jc3,Jc9,U4]
 refine DCall.z (Qd5 _) ?_
 simp only [push_cast,simprocAttr,scC,hdC,tlC,c3C,Jc3,Jc9,U4]
 refine DCall.by (Xz8 s.w s.h m2.length 0 (m2.length+1) 0 (m2.length+2) 0 (m2.length+3) 0 (m2.length+4) 0 (m2.length+5) 0 n (gL s Ff W) (gN s Ff W) (gB s Ff W) (gD s Ff W) m5 ⟨_,_,hr0⟩ ⟨_,_,hr1⟩ ⟨_,_,hr2⟩ ⟨_,_,hr3⟩ lr4 lr5 (by omega)) ?_
 simp only [push_cast,simprocAttr,scC,hdC,tlC,c3C,Jc3,Jc9,U4]
 refine DCall.by (Qz9 s R Ff _ (hR5.app _) hg hT hJ hX hE hLK ⟨m1f,by omega⟩ W H n hW hH hn) ?_
 simp only [push_cast,simprocAttr,scC,hdC,tlC,c3C,Jc3,Jc9,U4]
 refine DCall.z (Xv0 s.w s.h m5.length 0 (m5.length+1) 0 (m5.length+2) 0 (m5.length+3) 0 (m2.length+4) 0 (m2.length+5) 0 (m5.length+4) 0 (m5.length+5) 0 (m5.length+6) 0 (m5.length+7) 0 (m5.length+8) 0 (m5.length+9) 0 n (gL s Ff W) (gN s Ff W) (gB s Ff W) (gD s Ff W) (gS s Ff W) (gF s Ff W) _ ⟨.grow,3,by simp only [push_cast,simprocAttr]⟩ ⟨.grow,1,by simp only [push_cast,simprocAttr]⟩ ⟨.grow,3,by simp only [push_cast,simprocAttr]⟩ ⟨.grow,3,by simp only [push_cast,simprocAttr]⟩ ⟨_,_,Ja4 hr4 _⟩ ⟨_,_,Ja4 hr5 _⟩ ⟨.grow,3,by simp only [push_cast,simprocAttr]⟩ ⟨.grow,1,by simp only [push_cast,simprocAttr]⟩ ⟨.grow,3,by simp only [push_cast,simprocAttr]⟩ ⟨.grow,3,by simp only [push_cast,simprocAttr]⟩ ⟨.grow,1,by simp only [push_cast,simprocAttr]⟩ ⟨.grow,1,by simp only [push_cast,simprocAttr]⟩ (by omega)) ?_
 simp only [push_cast,simprocAttr,scC,hdC,tlC,c3C,Jc3,Jc9,U4]
 refine DCall.z (Vu4 s.w s.h n _ hgw hgh (by rw [hWH];exact wn) m2.length (m2.length+1) (m2.length+2) (m2.length+3) (m2.length+4) (m2.length+5) 0 0 0 0 0 0 (gS s Ff W) (gF s Ff W) ⟨_,_,Ja4 hr4 _⟩ ⟨_,_,Ja4 hr5 _⟩ hall (by omega)) ?_
 simp only [push_cast,simprocAttr,scC,hdC,tlC,c3C,Jc3,Jc9,U4]
 refine AW.w 2 Tru Tru ?_
 refine hQ _ _ _ ?_
 obtain ⟨X8,hX8⟩:=hmx
 simp only [hX8,List.append_assoc]
 refine RetP.drop (by first|exact Or.inr rfl|exact Or.inl rfl) ?_ ?_ hwf
 · (simp only [Je0,Jb1,Jb9,AV.tv,push_cast,simprocAttr])<;>rfl
 rfl
theorem Kw8 (s:SC)(R:RWs)(fm:Int)(m:Ja1)(hR:ScR 138 143 285 146 150 m s R):Ctr Tryz.prog 7 [.agg (scC s R),.one (.int .i64 fm)] m (.one (.bool true)) m:=by
 by_cases hL:LtR s
 ·exact Kw6 s R fm m hR hL
 exact Kw7 s R fm m hR hL
end Go.Proofs.YtaannomfigammaaGreat
