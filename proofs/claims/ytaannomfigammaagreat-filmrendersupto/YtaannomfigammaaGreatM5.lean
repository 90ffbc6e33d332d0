/- Walks and facts of this seat's program over abstract states, printed by programs of mine; no conditions but those that each theorem names. -/
import Derived.Test.YtaannomfigammaaGreatM4
set_option linter.unusedSimpArgs false
set_option linter.unusedVariables false
set_option maxRecDepth 100000
set_option maxHeartbeats 4000000
namespace Go.Proofs.YtaannomfigammaaGreat
open Go Go.Eng
theorem TmP.order {T:TB}{prs:Nat->PR}{mid:Nat->V}{m M:Ja1}{o o':List Nat}{ns:List ND}(h:TmP T prs mid m M (o,ns))(hT:TbOk T prs mid m)(ho:o'.length=o.length):TmP T prs mid m (M.set T.r ⟨.grow,3,T.v,T.ez,iC o'⟩) (o',ns) where
 len:=by rw [List.length_set];exact h.len
 old:=fun i hi h1 h2 h3=>by rw [List.getElem?_set_ne (by omega)];exact h.old i hi h1 h2 h3
 hw:=by
  rw [List.getElem?_set_ne (fun e=>hT.d2 e.symm),h.hw]
  show some (Blk.mk _ _ _ _ [_,.sl T.r T.v 0 o.length,_,_])=some (Blk.mk _ _ _ _ [_,.sl T.r T.v 0 o'.length,_,_])
  rw [ho]
 hn:=by rw [List.getElem?_set_ne (fun e=>hT.d3 e.symm)];exact h.hn
 hr:=List.getElem?_set_self (h.ok hT).lr
theorem TmP.self {T:TB}{prs:Nat->PR}{mid:Nat->V}{m M:Ja1}{st:List Nat × List ND}(h:TmP T prs mid m M st):TmP T prs mid M M st:=⟨Nat.le_refl _,fun _ _ _ _ _=>rfl,h.hw,h.hn,h.hr⟩
theorem Xk2 (T:TB)(prs:Nat->PR)(mid:Nat->V)(a b:Nat)(o:List Nat)(nds:List ND)(m:Ja1)(hT:TbOk T prs mid m)(hP:TmP T prs mid m m (o,nds))(hab:a<b)(hbo:b<=o.length)(ho:∀ x,x<o.length->o.getD x 0<T.N)(hol:o.length<=128)(f:Nat)(hf:b - a<=f+1)(hnd:nds.length+2*(b - a)<=1000)(h4:¬b - a<=4)(ih:∀ (a b:Nat) (st:List Nat × List ND) (m:Ja1),b - a<=f->a<b->b<=st.1.length->(∀ x,x<st.1.length->st.1.getD x 0<T.N)->st.1.length<=128->st.2.length+2*(b - a)<=1000->TbOk T prs mid m->TmP T prs mid m m st->Ctr Tryz.prog 184 [.one (.ptr T.w 0 0),.one (.int .i64 ((a:Int))),.one (.int .i64 ((b:Int)))] m (.one (.int .i64 (st.2.length:Int))) (tM m T (Jt1 prs mid f a b st))):Ctr Tryz.prog 184 [.one (.ptr T.w 0 0),.one (.int .i64 ((a:Int))),.one (.int .i64 ((b:Int)))] m (.one (.int .i64 (nds.length:Int))) (tM m T (Jt1 prs mid (f+1) a b (o,nds))):=by
 refine Ctr.en Tryz.func184 [.tmp 6] 96 fun hwf Q hQ=>?_
 obtain ⟨l,hl⟩:∃ l,l=Jk3 o a b:=⟨_,rfl⟩
 have hll:b - a=l.length:=by rw [hl,Jf8 hbo]
 have hw:m[T.w]?=some ⟨.fix,314,0,0,[.sl T.nb nds.length 0 nds.length,.sl T.r T.v 0 o.length,.sl T.pb T.pv 0 T.N,.sl T.mb T.mv 0 T.N]⟩:=hP.hw
 have hn:m[T.nb]?=some ⟨.grow,255,nds.length,16,ndL nds⟩:=hP.hn
 have hr:m[T.r]?=some ⟨.grow,3,T.v,T.ez,iC o⟩:=hP.hr
 have lw:=hT.lw
 have ln:=hT.ln
 have lr:=hT.lr
 have d1:=hT.d1
 have d2:=hT.d2
 have d3:=hT.d3
 have d1s:=d1.symm
 have d2s:=d2.symm
 have d3s:=d3.symm
 have hI:IdsAt m T.r T.v a l T.N:=by rw [hl];exact Kt6 ⟨_,_,hr⟩ (by omega) hbo ho hol
 have hMk:=hP.mk' hT
 dsimp only at hMk
 have h0:0<l.length:=by omega
 have ol:(iC o).length=o.length:=Jg5 _
 have nl:(ndL nds).length=nds.length*16:=Km7 _
 have n1:(0:Int)<=(a:Int):=by omega
 have n2:(a:Int)<=(b:Int):=by omega
 have n3:(b:Int)<=(o.length:Int):=by omega
 have q1:nds.length<=140737488355327:=by omega
 have q2:(nds.length+1)*128<=140737488355328:=by omega
 have hs1:∀ B (X:Ja1),(m++X).set T.nb B=m.set T.nb B++X:=fun B X=>List.set_append_left _ _ ln
 have hs2:∀ B (X:Ja1),(m++X).set T.w B=m.set T.w B++X:=fun B X=>List.set_append_left _ _ lw
 have hkw:∀ B (X:Ja1),(m.set T.nb B++X)[T.w]?=some ⟨.fix,314,0,0,[.sl T.nb nds.length 0 nds.length,.sl T.r T.v 0 o.length,.sl T.pb T.pv 0 T.N,.sl T.mb T.mv 0 T.N]⟩:=fun B X=>by rw [List.getElem?_append_left (by rw [List.length_set];exact lw),List.getElem?_set_ne d1s];exact hw
 have hs3:∀ B C (X:Ja1),(m.set T.nb B++X).set T.w C=(m.set T.nb B).set T.w C++X:=fun B C X=>List.set_append_left _ _ (by rw [List.length_set];exact lw)
 have hlt0:∀ k,¬m.length+k<m.length:=fun k=>by omega
 have h4i:¬(l.length:Int)<=4:=by omega
 obtain ⟨hperm,hm0,hm1⟩:=Kt7 (prs:=prs) (mid:=mid) (l:=l) (by omega)
 obtain ⟨sp,hsp⟩:∃ sp,sp=Jm1 prs mid l:=⟨_,rfl⟩
 rw [<-hsp] at hperm hm0 hm1
 have hlb:sp.1.length=b - a:=by rw [hperm.length_eq];omega
 have ol1:(Jw2 o a b sp.1).length=o.length:=Kc7 (by omega) hbo hlb
 have nl1:(nds++[(⟨Jc1 prs l,-1,-1,0,0⟩:ND)]).length=nds.length+1:=by simp
 obtain ⟨mm,hmm⟩:∃ mm,mm=a+sp.2:=⟨_,rfl⟩
 have hw7:IntKind.i64.wrap ((a:Int)+(sp.2:Int))=(mm:Int):=by rw [show (a:Int)+(sp.2:Int)=(mm:Int) by omega];exact wi (by omega)
 have k1:=Ka6 (prs:=prs) (mid:=mid) f a mm (Jw2 o a b sp.1,(nds++[(⟨Jc1 prs l,-1,-1,0,0⟩:ND)])) (by omega) (by omega) (by show _<=(Jw2 o a b sp.1).length;omega)
 have c1:=Ju4 (prs:=prs) (mid:=mid) f a mm (Jw2 o a b sp.1,(nds++[(⟨Jc1 prs l,-1,-1,0,0⟩:ND)])) (by omega) (by omega) (by show _<=(Jw2 o a b sp.1).length;omega)
 obtain ⟨s1,hs1e⟩:∃ s1,s1=Jt1 prs mid f a mm (Jw2 o a b sp.1,(nds++[(⟨Jc1 prs l,-1,-1,0,0⟩:ND)])):=⟨_,rfl⟩
 rw [<-hs1e] at k1 c1
 have sl1:s1.1.length=o.length:=k1.len.trans ol1
 have q5:(nds++[(⟨Jc1 prs l,-1,-1,0,0⟩:ND)]).length<s1.2.length:=k1.lt
 have c1':s1.2.length+1<=(nds++[(⟨Jc1 prs l,-1,-1,0,0⟩:ND)]).length+2*(mm - a):=c1
 have k2:=Ka6 (prs:=prs) (mid:=mid) f mm b s1 (by omega) (by omega) (by omega)
 have c2:=Ju4 (prs:=prs) (mid:=mid) f mm b s1 (by omega) (by omega) (by omega)
 obtain ⟨s2,hs2e⟩:∃ s2,s2=Jt1 prs mid f mm b s1:=⟨_,rfl⟩
 rw [<-hs2e] at k2 c2
 have q6:=k2.lt
 have ho1:∀ x,x<(Jw2 o a b sp.1).length->(Jw2 o a b sp.1).getD x 0<T.N:=Xx0 hab hbo (hl ▸ hperm) ho
 have ho2:∀ x,x<s1.1.length->s1.1.getD x 0<T.N:=Qy7 k1.same k1.len (by show _<=(Jw2 o a b sp.1).length;omega) ho1
 have hs2d:s2.2[nds.length]?=some (⟨Jc1 prs l,-1,-1,0,0⟩:ND):=by
   have g1:s1.2[nds.length]?=(nds++[(⟨Jc1 prs l,-1,-1,0,0⟩:ND)])[nds.length]?:=k1.pre nds.length (by show nds.length<(nds++[(⟨Jc1 prs l,-1,-1,0,0⟩:ND)]).length;omega)
   rw [k2.pre nds.length (by omega),g1,List.getElem?_append_right (Nat.le_refl _),Nat.sub_self];rfl
 have hfin:Jt1 prs mid (f+1) a b (o,nds)=(s2.1,s2.2.set nds.length (⟨Jc1 prs l,((nds.length+1:Nat):Int),((s1.2.length:Nat):Int),0,0⟩:ND)):=by
   rw [Jt1]
   rw [if_neg h4]
   dsimp only
   rw [<-hl,<-hsp,<-hmm,<-hs1e,<-hs2e]
 rw [hfin] at hQ
 have U1:=ca4 hw (Ja4 hw) hn (ca4 (Ja4 hn) hr (Ja4 hr) (ca4 ol nl n1 (ca4 n2 n3 q1 (ca4 q2 hs1 hs2 (ca4 hkw hs3 d1 (ca4 d2 d3 d1s (ca4 d2s d3s hll (ca4 @Kf2 @Je6 @Ja5 (ca2 h4i hw7)))))))))
 refine AW.wd [[.val,.val,.val,.val,.val,.rd 0,.val,.val,.ext,.val,.ext,.wr,.val,.val,.val,.wr]] 4 U1 (Kj6 T.w (.sl T.nb nds.length 0 nds.length) (.sl T.r T.v 0 o.length) T.pb T.pv T.N T.mb T.mv prs mid T.r T.v a l _ hMk hI h0) ?_
 refine AW.q fun K J0=>?_
 refine AW.anyMemG (fun M=>TmP T prs mid m M (o,(nds++[(⟨Jc1 prs l,-1,-1,0,0⟩:ND)]))) (hP.snoc hT (⟨Jc1 prs l,-1,-1,0,0⟩:ND) _) fun M hM=>?_
 have hMk1:=hM.mk' hT
 have hrM:M[T.r]?=some ⟨.grow,3,T.v,T.ez,iC o⟩:=hM.hr
 refine AW.w 4 U1 Tru ?_
 have q_1:=Xc8 T.w _ _ T.pb T.pv T.N T.mb T.mv prs mid T.r T.v a b T.ez o l M hMk1 hrM hab hbo ho hol hl.symm
 rw [<-hsp] at q_1
 refine AW.c 1 U1 q_1 ?_
 refine AW.anyMemG (fun M1=>TmP T prs mid m M1 (Jw2 o a b sp.1,(nds++[(⟨Jc1 prs l,-1,-1,0,0⟩:ND)]))) (hM.order hT ol1) fun M1 hM1=>?_
 refine AW.sr 1 fun K J0=>?_
 simp only [push_cast,simprocAttr,U1]
 refine CThen.by (ih a mm (Jw2 o a b sp.1,(nds++[(⟨Jc1 prs l,-1,-1,0,0⟩:ND)])) _ (by omega) (by omega) (by show _<=(Jw2 o a b sp.1).length;omega) ho1 (by show (Jw2 o a b sp.1).length<=_;omega) (by show (nds++[(⟨Jc1 prs l,-1,-1,0,0⟩:ND)]).length+_<=_;omega) (hM1.ok hT) hM1.self) ?_
 simp only [push_cast,simprocAttr,U1]
 apply J0
 refine AW.anyMemG (fun M2=>TmP T prs mid m M2 s1) (hs1e ▸ hM1.put hT _) fun M2 hM2=>?_
 refine AW.c 1 U1 (ih mm b s1 _ (by omega) (by omega) (by omega) ho2 (by omega) (by omega) (hM2.ok hT) hM2.self) ?_
 refine AW.anyMemG (fun M3=>TmP T prs mid m M3 (s2.1,s2.2)) (hs2e ▸ hM2.put hT _) fun M3 hM3=>?_
 have hwM:M3[T.w]?=some ⟨.fix,314,0,0,[.sl T.nb s2.2.length 0 s2.2.length,.sl T.r T.v 0 s2.1.length,.sl T.pb T.pv 0 T.N,.sl T.mb T.mv 0 T.N]⟩:=hM3.hw
 have hnM:M3[T.nb]?=some ⟨.grow,255,s2.2.length,16,ndL s2.2⟩:=hM3.hn
 have hMl:=hM3.len
 have hML:(ndL s2.2).length=s2.2.length*16:=Km7 _
 have hkn:∀ B,(M3.set T.nb B)[T.nb]?=some B:=fun B=>List.getElem?_set_self (by omega)
 have hkW:∀ B,(M3.set T.nb B)[T.w]?=M3[T.w]?:=fun B=>List.getElem?_set_ne d1s
 have u1:(0:Int)<=(nds.length:Int):=by omega
 have u2:(nds.length:Int)<(s2.2.length:Int):=by omega
 have u3:nds.length*16+16<=s2.2.length*16:=by omega
 have u4:nds.length<s2.2.length:=by omega
 have u5:nds.length*16+15<=s2.2.length*16:=by omega
 have u6:nds.length*16+14<=s2.2.length*16:=by omega
 have u7:nds.length*16+13<=s2.2.length*16:=by omega
 have U2:=ca4 U1 hwM hnM (ca4 hML hkn hkW (ca4 u1 u2 u3 (ca4 u4 u5 u6 u7)))
 refine AW.d [.val,.val,.val,.val,.rd 0,.val,.val,.val,.val,.val,.rd 0,.val,.val,.val,.val,.val,.wr,.val,.val,.wr] fol U2 Tru ?_
 refine AW.anyMemG (fun M=>∃ L,M=tM m T (s2.1,s2.2.set nds.length (⟨Jc1 prs l,((nds.length+1:Nat):Int),((s1.2.length:Nat):Int),0,0⟩:ND))++L) ?_ fun M hM=>?_
 · exact (hM3.two hT (i:=nds.length) (k1:=12) (k2:=13) (x1:=.int .i64 ((nds.length+1:Nat):Int)) (x2:=.int .i64 ((s1.2.length:Nat):Int)) (d:=(⟨Jc1 prs l,-1,-1,0,0⟩:ND)) (d1:=(⟨Jc1 prs l,((nds.length+1:Nat):Int),-1,0,0⟩:ND)) (d2:=(⟨Jc1 prs l,((nds.length+1:Nat):Int),((s1.2.length:Nat):Int),0,0⟩:ND)) rfl hs2d (by decide) (by decide) rfl rfl).ext hT
 obtain ⟨L9,rfl⟩:=hM
 refine AW.w 2 U2 Tru ?_
 refine hQ _ _ _ ?_
 refine RetP.dropM (Kr6 _ _ _) (by first|exact Or.inr rfl|exact Or.inl rfl) ?_ ?_ (Xu0 hT hwf _)
 · (simp only [Je0,Jb1,Jb9,AV.tv,push_cast,simprocAttr])<;>rfl
 rfl
theorem Vz1 (T:TB)(prs:Nat->PR)(mid:Nat->V):∀ f,∀ (a b:Nat) (st:List Nat × List ND) (m:Ja1),b - a<=f->a<b->b<=st.1.length->(∀ x,x<st.1.length->st.1.getD x 0<T.N)->st.1.length<=128->st.2.length+2*(b - a)<=1000->TbOk T prs mid m->TmP T prs mid m m st->Ctr Tryz.prog 184 [.one (.ptr T.w 0 0),.one (.int .i64 ((a:Int))),.one (.int .i64 ((b:Int)))] m (.one (.int .i64 (st.2.length:Int))) (tM m T (Jt1 prs mid f a b st))
 | 0,a,b,st,m,hf,hab,_,_,_,_,_,_=>by omega
 | f+1,a,b,(o,nds),m,hf,hab,hbo,ho,hol,hnd,hT,hP=>by
  have hnd':nds.length+2*(b - a)<=1000:=hnd
  by_cases h4:b - a<=4
  ·have e:Jt1 prs mid (f+1) a b (o,nds)=(o,nds++[⟨Jc1 prs (Jk3 o a b),-1,-1,(a:Int),((b - a:Nat):Int)⟩]):=by rw [Jt1];exact if_pos h4
   rw [e]
   exact Xk3 T prs mid a b o nds m hT hP hab hbo ho hol (by omega) h4
  exact Xk2 T prs mid a b o nds m hT hP hab hbo ho hol f hf hnd' h4 (Vz1 T prs mid f)
theorem Vp9 (prs:Nat->PR)(rb rv n:Nat)(m:Ja1)(hb:∃ k ez,m[rb]?=some ⟨k,234,rv,ez,Jb2 n (prF prs)⟩)(h0:0<n)(hn:n<=128):Ctr Tryz.prog 181 [.one (.sl rb rv 0 n)] m (.one (.sl m.length 0 0 n)) (m++[⟨.grow,234,0,12,Jb2 n (prF prs)⟩]):=by
 refine Ctr.en Tryz.func181 [.tmp 2] 8 fun hwf Q hQ=>?_
 obtain ⟨k0,e0,hb⟩:=hb
 have lb:=Ja7 hb
 have bl:(Jb2 n (prF prs)).length=n*12:=Ja6 (w:=12) (F:=prF prs) (fun _=>rfl) _
 have bv:(Jb2 n (prF prs)).all CV.isVal=true:=Jb8 _ (fun _=>rfl) _
 have bt:List.take (n*12) (Jb2 n (prF prs))=Jb2 n (prF prs):=List.take_of_length_le (by omega)
 have q1:n<=140737488355327:=by omega
 have q4:n<=140737488355328:=by omega
 have q2:n*96<=140737488355328:=by omega
 have q3:n*12<=140737488355328:=by omega
 have hlt0:∀ k,¬m.length+k<m.length:=fun k=>by omega
 have U1:=ca4 hb (Ja4 hb) bl (ca4 bv bt q1 (ca4 q2 q3 q4 h0))
 refine AW.w 8 U1 Tru ?_
 refine hQ _ _ _ ?_
 refine RetP.pick [(m.length,1)] (by first|exact Or.inr rfl|exact Or.inl rfl) ?_ ?_ ?_ hwf ?_
 · simp only [Je0,Jb1,Jb9,AV.tv,push_cast,simprocAttr]
   simp [Kg3,Km1,Ka4,Jt4,Jh0,hlt0]
 · (simp only [Jm8,push_cast,simprocAttr])<;>rfl
 · simp [Jc2]
 exact Ja0 (Jb8 _ (fun _=>rfl) _) Jb3
theorem Qs0 (m:Ja1):Ctr Tryz.prog 181 [.one .nils] m (.one .nils) m:=by
 exact Ctr.f Tryz.func181 [.tmp 2] 8 Tru Tru
theorem Qx2 (m:Ja1):Ctr Tryz.prog 102 [.one .nils] m (.agg [.nils,.nils]) m:=by
 exact Ctr.f Tryz.func102 [.cell 2 125] 59 Tru Qs0
def Qv1 (prs:Nat->PR)(i:Nat):V:=Xy2 (Jq2 (prs i))
def Ji4 (prs:Nat->PR)(n:Nat):List Nat × List ND:=Jt1 prs (Qv1 prs) n 0 n (List.range n,[])
theorem Xc5 (prs:Nat->PR)(rb rv n:Nat)(m:Ja1)(hb:∃ k ez,m[rb]?=some ⟨k,234,rv,ez,Jb2 n (prF prs)⟩)(h0:0<n)(hn:n<=128):Ctr Tryz.prog 102 [.one (.sl rb rv 0 n)] m (.agg [.sl m.length 0 0 (Ji4 prs n).2.length,.sl (m.length+1) 0 0 n]) (m++[⟨.grow,255,0,16,ndL (Ji4 prs n).2⟩,⟨.grow,3,0,1,iC (Ji4 prs n).1⟩]):=by
 refine Ctr.en Tryz.func102 [.cell 2 125] 59 fun hwf Q hQ=>?_
 obtain ⟨k0,e0,hb⟩:=hb
 have lb:=Ja7 hb
 have bl:(Jb2 n (prF prs)).length=n*12:=Ja6 (w:=12) (F:=prF prs) (fun _=>rfl) _
 have bv:(Jb2 n (prF prs)).all CV.isVal=true:=Jb8 _ (fun _=>rfl) _
 have bt:List.take (n*12) (Jb2 n (prF prs))=Jb2 n (prF prs):=List.take_of_length_le (by omega)
 have q1:n<=140737488355327:=by omega
 have q4:n<=140737488355328:=by omega
 have q2:n*96<=140737488355328:=by omega
 have q3:n*12<=140737488355328:=by omega
 have hlt0:∀ k,¬m.length+k<m.length:=fun k=>by omega
 have e1:((n:Int) ==0)=false:=by simp;omega
 have e2:¬(128:Int)<(n:Int):=by omega
 have hst:(Ji4 prs n).1.length=n:=(Ka6 (prs:=prs) (mid:=Qv1 prs) n 0 n (List.range n,[]) (by omega) h0 (by simp)).len.trans List.length_range
 refine AW.sr 2 fun K J0=>?_
 have U2:=ca4 hb (Ja4 hb) h0 (ca2 e1 e2)
 simp only [push_cast,simprocAttr,bl,U2]
 refine CThen.by (Vp9 prs rb rv n _ ⟨k0,e0,Ja4 hb _⟩ h0 hn) ?_
 simp only [push_cast,simprocAttr,bl,U2]
 apply J0
 refine AW.q fun K J0=>?_
 refine AW.sr 1 fun K J1=>?_
 simp only [push_cast,simprocAttr,bl,U2]
 refine AW.w 4 Tru Tru ?_
 refine AW.q fun K J0=>?_
 refine AW.sr 1 fun K J1=>?_
 simp only [push_cast,simprocAttr,bl,U2]
 refine AW.w 2 Tru Tru ?_
 refine AW.nilCell 255 16 (m.length+2) 0 (by simp only [push_cast,simprocAttr,bl,U2];first|done|rfl) (by intro e;cases e) rfl ?_
 try simp only [push_cast,simprocAttr,bl,U2]
 refine AW.nilCell 3 1 (m.length+2) 1 (by simp only [push_cast,simprocAttr,bl,U2];first|done|rfl) (by intro e;cases e) rfl ?_
 try simp only [push_cast,simprocAttr,bl,U2]
 refine AW.nilCell 59 3 (m.length+2) 3 (by simp only [push_cast,simprocAttr,bl,U2];first|done|rfl) (by intro e;cases e) rfl ?_
 try simp only [push_cast,simprocAttr,bl,U2]
 refine AW.loopK [0,2,3,19,20] (fun i=>i<=n) (fun i=>[(21,.one (.int .i64 (i:Int)))]) (fun i=>[(m.length+2,⟨.fix,314,0,0,[.sl (m.length+3) 0 0 0,.sl (m.length+4) i 0 i,.sl (m.length+1) 0 0 n,.sl (m.length+5) i 0 i]⟩),(m.length+4,⟨.grow,3,i,1,iC (List.range i)⟩),(m.length+5,⟨.grow,59,i,3,Jb2 i (vF (Qv1 prs))⟩)]) (fun i=>n - i) 0 (by omega) ?_ ?_ fun i hi3=>?_
 · first|rfl|(simp only [KS,simprocAttr,Jb2,Int.natCast_zero,List.range_zero,iC,List.map_nil]<;>repeat' (first|rfl|apply And.intro))
 · (simp only [Ja2,push_cast,simprocAttr,Jb2,List.range_zero,iC,List.map_nil])<;>rfl
 try simp only [Ja9,Ja2,push_cast,simprocAttr,bl,U2]
 refine AW.sr 1 fun K J1=>?_
 simp only [push_cast,simprocAttr,bl,U2]
 refine AW.w 2 Tru Tru fun K J1=>?_
 refine AW.cond rfl (fun h22=>?_) (fun h22=>?_)
 ·have hlt:i<n:=by have:=of_decide_eq_true h22;omega
  have c1:(0:Int)<=(i:Int):=by omega
  have c2:(i:Int)<(n:Int):=by omega
  have c1:(0:Int)<=(i:Int):=by omega
  have c2:(i:Int)<(n:Int):=by omega
  have c3:i*12+12<=n*12:=by omega
  have ga:=Jb7 (w:=12) (F:=prF prs) (fun _=>rfl) hlt
  have gx:=Vb7 prs i
  have p1:i<=140737488355327:=by omega
  have p2:(i+1)*24<=140737488355328:=by omega
  have p3:(i+1)*8<=140737488355328:=by omega
  have gl1:(iC (List.range i)).length=i:=by rw [Jg5,List.length_range]
  have gl2:(Jb2 i (vF (Qv1 prs))).length=i*3:=Ja6 (w:=3) (F:=vF (Qv1 prs)) (fun _=>rfl) _
  have hap1:iC (List.range i)++[.int .i64 (i:Int)]=iC (List.range (i+1)):=by rw [Jy1,List.range_succ]
  have hap2:Jb2 i (vF (Qv1 prs))++[.int .i64 (Xy2 (Jq2 (prs i)) 0),.int .i64 (Xy2 (Jq2 (prs i)) 1),.int .i64 (Xy2 (Jq2 (prs i)) 2)]=Jb2 (i+1) (vF (Qv1 prs)):=rfl
  refine AW.w 4 Tru Tru fun K J1=>?_
  refine AW.sr 2 fun K J2=>?_
  have U3:=ca4 U2 c1 c2 (ca4 c3 ga gx (ca4 p1 p2 p3 (ca3 gl1 gl2 hlt)))
  simp only [push_cast,simprocAttr,bl,prC,bxC,c3C,U3]
  apply J2
  refine AW.draw [.val,.val,.val,.val,.rd 0,.rd 0,.ext,.ext,.ext,.wr,.val,.val,.wr] fol (by decide) (by kernel_rfl) ?_
  simp only [push_cast,simprocAttr,bl,prC,bxC,c3C,U3]
  refine DCall.z (Qk5 (prs i) _) ?_
  simp only [push_cast,simprocAttr,bl,prC,bxC,c3C,U3]
  refine DCall.z (Vq7 (Jq2 (prs i)) _) ?_
  simp only [push_cast,simprocAttr,bl,prC,bxC,c3C,U3]
  refine DExt.by (by first|rfl|exact (List.append_nil _).symm|(simp only [List.append_assoc,List.cons_append,List.nil_append];rfl)) ?_
  simp only [push_cast,simprocAttr,bl,prC,bxC,c3C,U3]
  refine AW.w 1 Tru Tru ?_
  refine AW.rg ?_
  simp only [push_cast,simprocAttr,bl,prC,bxC,c3C,U3]
  apply Jk2
  have hwi:IntKind.i64.wrap ((i:Int)+1)=(i:Int)+1:=wi (by omega)
  refine ⟨i+1,by omega,by omega,?_⟩
  try simp only [Ja9,Ja2,push_cast,simprocAttr,bl,prC,bxC,c3C,U3,hwi,hap1,hap2]
  exact Weak.to (extra:=_) (by simp only [KS,simprocAttr,hwi,hap1,hap2]) (by first|rfl|(simp only [List.append_assoc,List.cons_append,List.nil_append];rfl)) (by first|rfl|(simp [AV.below,CV.below];done)|(simp [AV.below,CV.below];omega)) (by exact MWf.app (hwf.grow (by simp)) (Ja0 rfl (Ja0 (Jb8 _ (fun _=>rfl) _) (Ja0 (by simp [CV.below]) (Ja0 rfl (Ja0 (Jg6 _ _) (Ja0 (Jb8 _ (fun _=>rfl) _) Jb3)))))))
 have hin:i=n:=by have:=of_decide_eq_false h22;omega
 rw [hin]
 refine AW.w 2 Tru Tru ?_
 refine AW.sr 1 fun K J0=>?_
 simp only [push_cast,simprocAttr,bl,U2]
 refine CThen.by ((by have h:=Vz1 ⟨m.length+2,m.length+3,m.length+4,m.length+1,0,n,m.length+5,n,n,1⟩ prs (Qv1 prs) n 0 n (List.range n,[]);rw [show Jt1 prs (Qv1 prs) n 0 n (List.range n,[])=Ji4 prs n from rfl] at h;exact h _ (by omega) h0 (by simp) (fun x hx=>by simp at hx;simp [hx]) (by simpa using hn) (by simp;omega) ⟨by simp,by simp,by simp,by simp,by simp,by simp,by simp,by simp,⟨.grow,12,by rw [Jf3];rfl⟩,⟨.grow,3,by rw [Jf3];rfl⟩,hn⟩ ⟨Nat.le_refl _,fun _ _ _ _ _=>rfl,by rw [Jf3];simp [TB.wC],by rw [Jf3];rfl,by rw [Jf3];rfl⟩)) ?_
 simp only [push_cast,simprocAttr,bl,U2]
 apply J0
 refine AW.sr 1 fun K J0=>?_
 simp only [push_cast,simprocAttr,bl,U2,tM,TB.wC,hst]
 refine AW.w 2 Tru Tru ?_
 refine hQ _ _ _ ?_
 refine RetP.pick [(m.length+3,(Ji4 prs n).2.length),(m.length+4,n)] (by first|exact Or.inr rfl|exact Or.inl rfl) ?_ ?_ ?_ hwf ?_
 · simp only [Je0,Jb1,Jb9,AV.tv,push_cast,simprocAttr]
   simp [Kg3,Km1,Ka4,Jt4,Jh0,hlt0]
 · (simp only [Jm8,push_cast,simprocAttr])<;>rfl
 · simp [Jc2]
 exact Ja0 (Jb8 _ (fun _=>rfl) _) (Ja0 (Jg6 _ _) Jb3)
def mF (mv:Nat->MV)(i:Nat):List CV:=mvC (mv i)
theorem Xm1 (mv:Nat->MV)(i:Nat):mF mv i=[.int .i64 (mv i).A.kind,.int .i64 (mv i).A.paint,.int .i64 ((mv i).A.P 0 0),.int .i64 ((mv i).A.P 0 1),.int .i64 ((mv i).A.P 0 2),.int .i64 ((mv i).A.P 1 0),.int .i64 ((mv i).A.P 1 1),.int .i64 ((mv i).A.P 1 2),.int .i64 ((mv i).A.P 2 0),.int .i64 ((mv i).A.P 2 1),.int .i64 ((mv i).A.P 2 2),.int .i64 (mv i).A.r,.int .i64 (mv i).B.kind,.int .i64 (mv i).B.paint,.int .i64 ((mv i).B.P 0 0),.int .i64 ((mv i).B.P 0 1),.int .i64 ((mv i).B.P 0 2),.int .i64 ((mv i).B.P 1 0),.int .i64 ((mv i).B.P 1 1),.int .i64 ((mv i).B.P 1 2),.int .i64 ((mv i).B.P 2 0),.int .i64 ((mv i).B.P 2 1),.int .i64 ((mv i).B.P 2 2),.int .i64 (mv i).B.r]:=rfl
noncomputable def prM (mv:Nat->MV)(i:Nat):PR:=Ke1 (mv i)
theorem Xb7 (mv:Nat->MV)(rb rv n:Nat)(m:Ja1)(hb:∃ k ez,m[rb]?=some ⟨k,204,rv,ez,Jb2 n (mF mv)⟩)(hn:n<=128)(h0:0<n):Ctr Tryz.prog 36 [.one (.sl rb rv 0 n)] m (.agg [.sl m.length 0 0 (Ji4 (prM mv) n).2.length,.sl (m.length+1) 0 0 n,.sl (m.length+2) 0 0 n]) (m++[⟨.grow,255,0,16,ndL (Ji4 (prM mv) n).2⟩,⟨.grow,3,0,1,iC (Ji4 (prM mv) n).1⟩,⟨.grow,204,0,24,Jb2 n (mF mv)⟩]):=by
 refine Ctr.en Tryz.func36 [.cell 2 128] 27 fun hwf Q hQ=>?_
 obtain ⟨k0,e0,hb⟩:=hb
 have lb:=Ja7 hb
 have bl:(Jb2 n (mF mv)).length=n*24:=Ja6 (w:=24) (F:=mF mv) (fun _=>rfl) _
 have bv:(Jb2 n (mF mv)).all CV.isVal=true:=Jb8 _ (fun _=>rfl) _
 have bt:List.take (n*24) (Jb2 n (mF mv))=Jb2 n (mF mv):=List.take_of_length_le (by omega)
 have q1:n<=140737488355327:=by omega
 have q2:n*192<=140737488355328:=by omega
 have q3:n*24<=140737488355328:=by omega
 have q4:n<=140737488355328:=by omega
 have hlt0:∀ k,¬m.length+k<m.length:=fun k=>by omega
 have U1:=ca4 hb (Ja4 hb) bl (ca4 bv bt q1 (ca4 q2 q3 q4 h0))
 refine AW.w 6 U1 Tru fun K J0=>?_
 refine AW.nilTm 234 12 3 rfl ?_
 try simp only [push_cast,simprocAttr,U1]
 refine AW.loopK [2,4,11,12] (fun i=>i<=n) (fun i=>[(3,.one (.sl (m.length+3) i 0 i)),(13,.one (.int .i64 (i:Int)))]) (fun i=>[(m.length+3,⟨.grow,234,i,12,Jb2 i (prF (prM mv))⟩)]) (fun i=>n - i) 0 (by omega) ?_ ?_ fun i hi2=>?_
 · first|rfl|(simp only [KS,simprocAttr,Jb2,Int.natCast_zero]<;>repeat' (first|rfl|apply And.intro))
 · (simp only [Ja2,push_cast,simprocAttr,Jb2])<;>rfl
 try simp only [Ja9,Ja2,push_cast,simprocAttr,U1]
 refine AW.w 2 U1 Tru fun K J1=>?_
 refine AW.cond rfl (fun h14=>?_) (fun h14=>?_)
 ·have hlt:i<n:=by have:=of_decide_eq_true h14;omega
  have c1:(0:Int)<=(i:Int):=by omega
  have c2:(i:Int)<(n:Int):=by omega
  have c1:(0:Int)<=(i:Int):=by omega
  have c2:(i:Int)<(n:Int):=by omega
  have c3:i*24+24<=n*24:=by omega
  have ga:=Jb7 (w:=24) (F:=mF mv) (fun _=>rfl) hlt
  have gx:=Xm1 mv i
  have p1:i<=140737488355327:=by omega
  have p2:(i+1)*96<=140737488355328:=by omega
  have gl2:(Jb2 i (prF (prM mv))).length=i*12:=Ja6 (w:=12) (F:=prF (prM mv)) (fun _=>rfl) _
  have hap:Jb2 i (prF (prM mv))++[.int .i64 ((Ke1 (mv i)).a.lo 0),.int .i64 ((Ke1 (mv i)).a.lo 1),.int .i64 ((Ke1 (mv i)).a.lo 2),.int .i64 ((Ke1 (mv i)).a.hi 0),.int .i64 ((Ke1 (mv i)).a.hi 1),.int .i64 ((Ke1 (mv i)).a.hi 2),.int .i64 ((Ke1 (mv i)).b.lo 0),.int .i64 ((Ke1 (mv i)).b.lo 1),.int .i64 ((Ke1 (mv i)).b.lo 2),.int .i64 ((Ke1 (mv i)).b.hi 0),.int .i64 ((Ke1 (mv i)).b.hi 1),.int .i64 ((Ke1 (mv i)).b.hi 2)]=Jb2 (i+1) (prF (prM mv)):=rfl
  refine AW.w 4 Tru Tru fun K J1=>?_
  have U2:=ca4 U1 c1 c2 (ca4 c3 ga gx (ca4 p1 p2 gl2 (ca4 hlt @Kf2 @Je6 @Ja5)))
  refine AW.w 4 U2 (Vq5 (mv i)) ?_
  have hwi:IntKind.i64.wrap ((i:Int)+1)=(i:Int)+1:=wi (by omega)
  refine ⟨i+1,by omega,by omega,?_⟩
  try simp only [Ja9,Ja2,push_cast,simprocAttr,U2,hwi,hap]
  exact Weak.to (extra:=_) (by simp only [KS,simprocAttr,hwi,hap]) (by first|rfl|(simp only [List.append_assoc,List.cons_append,List.nil_append];rfl)) (by first|rfl|(simp [AV.below,CV.below];done)|(simp [AV.below,CV.below];omega)) (by exact MWf.app (hwf.grow (by simp)) (Ja0 rfl (Ja0 (Jb8 _ (fun _=>rfl) _) (Ja0 (by simp [CV.below]) (Ja0 (Jb8 _ (fun _=>rfl) _) Jb3)))))
 have hin:i=n:=by have:=of_decide_eq_false h14;omega
 rw [hin]
 refine AW.w 2 Tru Tru ?_
 refine AW.sr 2 fun K J0=>?_
 simp only [push_cast,simprocAttr,U1]
 refine CThen.by (Xc5 (prM mv) (m.length+3) n n _ ⟨.grow,12,by rw [Jf3];rfl⟩ h0 hn) ?_
 simp only [push_cast,simprocAttr,U1]
 refine AW.w 2 Tru Tru ?_
 refine hQ _ _ _ ?_
 refine RetP.pick [(m.length+4,0),(m.length+5,0),(m.length+1,1)] (by first|exact Or.inr rfl|exact Or.inl rfl) ?_ ?_ ?_ hwf ?_
 · simp only [Je0,Jb1,Jb9,AV.tv,push_cast,simprocAttr]
   simp [Kg3,Km1,Ka4,Jt4,Jh0,hlt0]
 · (simp only [Jm8,push_cast,simprocAttr])<;>rfl
 · simp [Jc2]
 exact Ja0 (Jb8 _ (fun _=>rfl) _) (Ja0 (Jg6 _ _) (Ja0 (Jb8 _ (fun _=>rfl) _) Jb3))
theorem Vk4 (mv:Nat->MV)(rb rv n:Nat)(m:Ja1)(hb:∃ k ez,m[rb]?=some ⟨k,204,rv,ez,Jb2 n (mF mv)⟩)(hn:n<=128)(h0:n=0):Ctr Tryz.prog 36 [.one (.sl rb rv 0 n)] m (.agg [.nils,.nils,.sl m.length 0 0 n]) (m++[⟨.grow,204,0,24,Jb2 n (mF mv)⟩]):=by
 refine Ctr.en Tryz.func36 [.cell 2 128] 27 fun hwf Q hQ=>?_
 obtain ⟨k0,e0,hb⟩:=hb
 have lb:=Ja7 hb
 have bl:(Jb2 n (mF mv)).length=n*24:=Ja6 (w:=24) (F:=mF mv) (fun _=>rfl) _
 have bv:(Jb2 n (mF mv)).all CV.isVal=true:=Jb8 _ (fun _=>rfl) _
 have bt:List.take (n*24) (Jb2 n (mF mv))=Jb2 n (mF mv):=List.take_of_length_le (by omega)
 have q1:n<=140737488355327:=by omega
 have q2:n*192<=140737488355328:=by omega
 have q3:n*24<=140737488355328:=by omega
 have q4:n<=140737488355328:=by omega
 have hlt0:∀ k,¬m.length+k<m.length:=fun k=>by omega
 subst h0
 have U3:=ca4 hb (Ja4 hb) bl (ca4 bv bt q1 (ca3 q2 q3 q4))
 refine AW.w 6 U3 Tru fun K J0=>?_
 refine AW.r 1 ?_
 refine AW.w 9 U3 Qx2 fun K J1 K J2=>?_
 refine hQ _ _ _ ?_
 refine RetP.pick [(m.length+1,1)] (by first|exact Or.inr rfl|exact Or.inl rfl) ?_ ?_ ?_ hwf ?_
 · simp only [Je0,Jb1,Jb9,AV.tv,push_cast,simprocAttr]
   simp [Kg3,Km1,Ka4,Jt4,Jh0,hlt0]
 · (simp only [Jm8,push_cast,simprocAttr])<;>rfl
 · simp [Jc2]
 exact Ja0 (Jb8 _ (fun _=>rfl) _) Jb3
def Ki4 (a b:V):V:=Ja8 a (Jd8 b (Jd3 131072 (Je2 a b)))
def Ko4 (d n:V):V:=if 0<Je2 n d then Vk6 n else n
structure HT where
 (t i:Int) (p n:V)
def htC (h:HT):List CV:=.int .i64 h.t::.int .i64 h.i::(c3C h.p++c3C h.n)
def ht0:HT:=⟨0,0,z0V,z0V⟩
def ryC (r:RY):List CV:=c3C r.o++(c3C r.d++[.int .i64 r.part])
theorem Vy5 (r:RY):ryC r=[.int .i64 (r.o 0),.int .i64 (r.o 1),.int .i64 (r.o 2),.int .i64 (r.d 0),.int .i64 (r.d 1),.int .i64 (r.d 2),.int .i64 (r.part)]:=rfl
theorem Jh1 (r:RY):ryC r=(c3C r.o++(c3C r.d++[.int .i64 r.part])):=rfl
theorem Kz3 (r:RY)(t:Int)(m:Ja1):Ctr Tryz.prog 194 [.agg (ryC r),.one (.int .i64 t)] m (.agg (c3C (Je3 r t))) m:=by
 have U1:=ca2 @Jh1 @Ja5
 exact Ctr.fd Tryz.func194 [.cell 4 59] 12 [[.val,.rd 0,.val,.rd 0,.val,.ext,.ext,.wr]] U1 (ca2 (Jv3 r.d t) (Qh6 r.o (Jd8 r.d t)))
theorem Ku9 (r:RY)(t:Int)(m:Ja1):Ctr Tryz.prog 241 [.agg (ryC r),.one (.int .i64 t)] m (.agg (c3C (Je3 r t))) m:=by
 have U2:=ca2 @Jh1 @Ja5
 exact Ctr.fd Tryz.func241 [.cell 4 54] 12 [[.val,.rd 0,.val,.rd 0,.val,.ext,.ext,.wr]] U2 (ca2 (Jp7 r.d t) (Ju3 r.o (Jd8 r.d t)))
theorem Qa6 (r:RY)(a b:Int)(m:Ja1):Ctr Tryz.prog 125 [.agg (ryC r),.one (.int .i64 a),.one (.int .i64 b)] m (.agg (bxC (Ka0 r a b))) m:=by
 refine Ctr.en Tryz.func125 [.cell 6 232] 15 fun hwf Q hQ=>?_
 have U3:=ca3 @Jh1 @Je6 @Ja5
 refine AW.c 1 U3 Tru ?_
 refine AW.q fun K J0=>?_
 refine AW.draw [.rd 0,.val,.ext,.rd 0,.val,.ext,.ext,.ext,.wr] fol (by decide) (by kernel_rfl) ?_
 simp only [push_cast,simprocAttr,U3]
 refine DCall.z (Kz3 r a _) ?_
 simp only [push_cast,simprocAttr,U3]
 refine DCall.z (Kz3 r b _) ?_
 simp only [push_cast,simprocAttr,U3]
 refine DExt.by (by first|rfl|exact (List.append_nil _).symm|(simp only [List.append_assoc,List.cons_append,List.nil_append];rfl)) ?_
 simp only [push_cast,simprocAttr,U3]
 refine DCall.z ((by have h:=fun M r9 q=>Xq1 (Je3 r a) (fun _=>Je3 r b) r9 0 0 1 1 M q (by omega) (by omega);exact h _ _ ⟨.grow,3,by simp only [push_cast,simprocAttr];rfl⟩)) ?_
 simp only [push_cast,simprocAttr,U3]
 exact AW.f Tru Tru
theorem Ki3 (a b:V)(m:Ja1):Ctr Tryz.prog 135 [.agg (c3C a),.agg (c3C b)] m (.agg (c3C (Ki4 a b))) m:=by
 exact Ctr.fd Tryz.func135 [.cell 4 59] 13 [[.rd 0,.rd 0,.rd 0,.rd 0,.ext,.ext,.ext,.ext,.wr]] @Ja5 (ca4 (Jf0 a b) Jk7 (Jv3 b (Jd3 131072 (Je2 a b))) (Jh4 a (Jd8 b (Jd3 131072 (Je2 a b)))))
theorem Kc6 (a b:V)(m:Ja1):Ctr Tryz.prog 154 [.agg (c3C a),.agg (c3C b)] m (.agg (c3C (Ki4 a b))) m:=by
 exact Ctr.fd Tryz.func154 [.cell 4 54] 13 [[.rd 0,.rd 0,.rd 0,.rd 0,.ext,.ext,.ext,.ext,.wr]] @Ja5 (ca4 (Jc8 a b) Ji2 (Jp7 b (Jd3 131072 (Je2 a b))) (Je8 a (Jd8 b (Jd3 131072 (Je2 a b)))))
theorem Vt8 (r:RY)(n:V)(m:Ja1)(g:0<Je2 n r.d):Ctr Tryz.prog 236 [.agg (ryC r),.agg (c3C n)] m (.agg (c3C (Ko4 r.d n))) m:=by
 refine Ctr.en Tryz.func236 [.cell 4 59] 13 fun hwf Q hQ=>?_
 have hv:Ko4 r.d n=Vk6 n:=if_pos g
 rw [hv] at hQ
 have U4:=ca3 @Jh1 @Ja5 g
 exact AW.f U4 (ca2 (Jf0 n r.d) (neg_v n))
theorem Vt9 (r:RY)(n:V)(m:Ja1)(g:¬0<Je2 n r.d):Ctr Tryz.prog 236 [.agg (ryC r),.agg (c3C n)] m (.agg (c3C (Ko4 r.d n))) m:=by
 refine Ctr.en Tryz.func236 [.cell 4 59] 13 fun hwf Q hQ=>?_
 have hv:Ko4 r.d n=n:=if_neg g
 rw [hv] at hQ
 have U5:=ca3 @Jh1 @Ja5 g
 exact AW.f U5 (Jf0 n r.d)
theorem Kx0 (r:RY)(n:V)(m:Ja1):Ctr Tryz.prog 236 [.agg (ryC r),.agg (c3C n)] m (.agg (c3C (Ko4 r.d n))) m:=by
 by_cases g:0<Je2 n r.d
 ·exact Vt8 r n m g
 exact Vt9 r n m g
theorem Va4 (r:RY)(n:V)(m:Ja1)(g:0<Je2 n r.d):Ctr Tryz.prog 242 [.agg (ryC r),.agg (c3C n)] m (.agg (c3C (Ko4 r.d n))) m:=by
 refine Ctr.en Tryz.func242 [.cell 4 54] 14 fun hwf Q hQ=>?_
 have hv:Ko4 r.d n=Vk6 n:=if_pos g
 rw [hv] at hQ
 have U6:=ca3 @Jh1 @Ja5 g
 exact AW.f U6 (ca2 (Jc8 n r.d) (Je8 z0V n))
theorem Va5 (r:RY)(n:V)(m:Ja1)(g:¬0<Je2 n r.d):Ctr Tryz.prog 242 [.agg (ryC r),.agg (c3C n)] m (.agg (c3C (Ko4 r.d n))) m:=by
 refine Ctr.en Tryz.func242 [.cell 4 54] 14 fun hwf Q hQ=>?_
 have hv:Ko4 r.d n=n:=if_neg g
 rw [hv] at hQ
 have U7:=ca3 @Jh1 @Ja5 g
 exact AW.f U7 (Jc8 n r.d)
theorem Km0 (r:RY)(n:V)(m:Ja1):Ctr Tryz.prog 242 [.agg (ryC r),.agg (c3C n)] m (.agg (c3C (Ko4 r.d n))) m:=by
 by_cases g:0<Je2 n r.d
 ·exact Va4 r n m g
 exact Va5 r n m g
theorem Xz6 (b:BX)(q:V)(m:Ja1)(g0:q 0<b.lo 0):Ctr Tryz.prog 260 [.agg (bxC b),.agg (c3C q)] m (.one (.bool false)) m:=by
 refine Ctr.en Tryz.func260 [.tmp 4] 28 fun hwf Q hQ=>?_
 have U8:=ca4 @Je6 @Ja5 @decide_true (ca2 @decide_false g0)
 refine AW.w 4 U8 Tru fun K J0=>?_
 refine AW.r 4 ?_
 refine AW.w 5 U8 Tru fun K J1 K J2=>?_
 refine AW.sr 3 fun K J3=>?_
 simp only [push_cast,simprocAttr,U8]
 refine CThen.by (Jc4 q _) ?_
 simp only [push_cast,simprocAttr,U8]
 refine CThen.by (Jc4 b.lo _) ?_
 simp only [push_cast,simprocAttr,U8]
 try (refine CThen.by (Jc4 b.hi _) ?_;simp only [push_cast,simprocAttr,U8])
 exact AW.f U8 Tru
theorem Xz5 (b:BX)(q:V)(m:Ja1)(g0:¬q 0<b.lo 0)(g1:b.hi 0<q 0):Ctr Tryz.prog 260 [.agg (bxC b),.agg (c3C q)] m (.one (.bool false)) m:=by
 refine Ctr.en Tryz.func260 [.tmp 4] 28 fun hwf Q hQ=>?_
 have U9:=ca4 @Je6 @Ja5 @decide_true (ca3 @decide_false g0 g1)
 refine AW.w 4 U9 Tru fun K J0=>?_
 refine AW.r 4 ?_
 refine AW.w 5 U9 Tru fun K J1 K J2=>?_
 refine AW.sr 3 fun K J3=>?_
 simp only [push_cast,simprocAttr,U9]
 refine CThen.by (Jc4 q _) ?_
 simp only [push_cast,simprocAttr,U9]
 refine CThen.by (Jc4 b.lo _) ?_
 simp only [push_cast,simprocAttr,U9]
 try (refine CThen.by (Jc4 b.hi _) ?_;simp only [push_cast,simprocAttr,U9])
 exact AW.f U9 Tru
theorem Xz4 (b:BX)(q:V)(m:Ja1)(g0:¬q 0<b.lo 0)(g1:¬b.hi 0<q 0)(g2:q 1<b.lo 1):Ctr Tryz.prog 260 [.agg (bxC b),.agg (c3C q)] m (.one (.bool false)) m:=by
 refine Ctr.en Tryz.func260 [.tmp 4] 28 fun hwf Q hQ=>?_
 have U10:=ca4 @Je6 @Ja5 @decide_true (ca4 @decide_false g0 g1 g2)
 refine AW.w 4 U10 Tru fun K J0=>?_
 refine AW.r 4 ?_
 refine AW.w 5 U10 Tru fun K J1 K J2=>?_
 refine AW.sr 3 fun K J3=>?_
 simp only [push_cast,simprocAttr,U10]
 refine CThen.by (Jc4 q _) ?_
 simp only [push_cast,simprocAttr,U10]
 refine CThen.by (Jc4 b.lo _) ?_
 simp only [push_cast,simprocAttr,U10]
 try (refine CThen.by (Jc4 b.hi _) ?_;simp only [push_cast,simprocAttr,U10])
 refine AW.w 11 U10 Tru fun K J1 K J2=>?_
 refine AW.sr 3 fun K J3=>?_
 simp only [push_cast,simprocAttr,U10]
 refine CThen.by (Jd5 q _) ?_
 simp only [push_cast,simprocAttr,U10]
 refine CThen.by (Jd5 b.lo _) ?_
 simp only [push_cast,simprocAttr,U10]
 try (refine CThen.by (Jd5 b.hi _) ?_;simp only [push_cast,simprocAttr,U10])
 exact AW.f U10 Tru
theorem Xz3 (b:BX)(q:V)(m:Ja1)(g0:¬q 0<b.lo 0)(g1:¬b.hi 0<q 0)(g2:¬q 1<b.lo 1)(g3:b.hi 1<q 1):Ctr Tryz.prog 260 [.agg (bxC b),.agg (c3C q)] m (.one (.bool false)) m:=by
 refine Ctr.en Tryz.func260 [.tmp 4] 28 fun hwf Q hQ=>?_
 have U11:=ca4 @Je6 @Ja5 @decide_true (ca4 @decide_false g0 g1 (ca2 g2 g3))
 refine AW.w 4 U11 Tru fun K J0=>?_
 refine AW.r 4 ?_
 refine AW.w 5 U11 Tru fun K J1 K J2=>?_
 refine AW.sr 3 fun K J3=>?_
 simp only [push_cast,simprocAttr,U11]
 refine CThen.by (Jc4 q _) ?_
 simp only [push_cast,simprocAttr,U11]
 refine CThen.by (Jc4 b.lo _) ?_
 simp only [push_cast,simprocAttr,U11]
 try (refine CThen.by (Jc4 b.hi _) ?_;simp only [push_cast,simprocAttr,U11])
 refine AW.w 11 U11 Tru fun K J1 K J2=>?_
 refine AW.sr 3 fun K J3=>?_
 simp only [push_cast,simprocAttr,U11]
 refine CThen.by (Jd5 q _) ?_
 simp only [push_cast,simprocAttr,U11]
 refine CThen.by (Jd5 b.lo _) ?_
 simp only [push_cast,simprocAttr,U11]
 try (refine CThen.by (Jd5 b.hi _) ?_;simp only [push_cast,simprocAttr,U11])
 exact AW.f U11 Tru
theorem Xz2 (b:BX)(q:V)(m:Ja1)(g0:¬q 0<b.lo 0)(g1:¬b.hi 0<q 0)(g2:¬q 1<b.lo 1)(g3:¬b.hi 1<q 1)(g4:q 2<b.lo 2):Ctr Tryz.prog 260 [.agg (bxC b),.agg (c3C q)] m (.one (.bool false)) m:=by
 refine Ctr.en Tryz.func260 [.tmp 4] 28 fun hwf Q hQ=>?_
 have U12:=ca4 @Je6 @Ja5 @decide_true (ca4 @decide_false g0 g1 (ca3 g2 g3 g4))
 refine AW.w 4 U12 Tru fun K J0=>?_
 refine AW.r 4 ?_
 refine AW.w 5 U12 Tru fun K J1 K J2=>?_
 refine AW.sr 3 fun K J3=>?_
 simp only [push_cast,simprocAttr,U12]
 refine CThen.by (Jc4 q _) ?_
 simp only [push_cast,simprocAttr,U12]
 refine CThen.by (Jc4 b.lo _) ?_
 simp only [push_cast,simprocAttr,U12]
 try (refine CThen.by (Jc4 b.hi _) ?_;simp only [push_cast,simprocAttr,U12])
 refine AW.w 11 U12 Tru fun K J1 K J2=>?_
 refine AW.sr 3 fun K J3=>?_
 simp only [push_cast,simprocAttr,U12]
 refine CThen.by (Jd5 q _) ?_
 simp only [push_cast,simprocAttr,U12]
 refine CThen.by (Jd5 b.lo _) ?_
 simp only [push_cast,simprocAttr,U12]
 try (refine CThen.by (Jd5 b.hi _) ?_;simp only [push_cast,simprocAttr,U12])
 refine AW.w 11 U12 Tru fun K J1 K J2=>?_
 refine AW.sr 3 fun K J3=>?_
 simp only [push_cast,simprocAttr,U12]
 refine CThen.by (Jg1 q _) ?_
 simp only [push_cast,simprocAttr,U12]
 refine CThen.by (Jg1 b.lo _) ?_
 simp only [push_cast,simprocAttr,U12]
 try (refine CThen.by (Jg1 b.hi _) ?_;simp only [push_cast,simprocAttr,U12])
 exact AW.f U12 Tru
theorem Xz1 (b:BX)(q:V)(m:Ja1)(g0:¬q 0<b.lo 0)(g1:¬b.hi 0<q 0)(g2:¬q 1<b.lo 1)(g3:¬b.hi 1<q 1)(g4:¬q 2<b.lo 2)(g5:b.hi 2<q 2):Ctr Tryz.prog 260 [.agg (bxC b),.agg (c3C q)] m (.one (.bool false)) m:=by
 refine Ctr.en Tryz.func260 [.tmp 4] 28 fun hwf Q hQ=>?_
 have U13:=ca4 @Je6 @Ja5 @decide_true (ca4 @decide_false g0 g1 (ca4 g2 g3 g4 g5))
 refine AW.w 4 U13 Tru fun K J0=>?_
 refine AW.r 4 ?_
 refine AW.w 5 U13 Tru fun K J1 K J2=>?_
 refine AW.sr 3 fun K J3=>?_
 simp only [push_cast,simprocAttr,U13]
 refine CThen.by (Jc4 q _) ?_
 simp only [push_cast,simprocAttr,U13]
 refine CThen.by (Jc4 b.lo _) ?_
 simp only [push_cast,simprocAttr,U13]
 try (refine CThen.by (Jc4 b.hi _) ?_;simp only [push_cast,simprocAttr,U13])
 refine AW.w 11 U13 Tru fun K J1 K J2=>?_
 refine AW.sr 3 fun K J3=>?_
 simp only [push_cast,simprocAttr,U13]
 refine CThen.by (Jd5 q _) ?_
 simp only [push_cast,simprocAttr,U13]
 refine CThen.by (Jd5 b.lo _) ?_
 simp only [push_cast,simprocAttr,U13]
 try (refine CThen.by (Jd5 b.hi _) ?_;simp only [push_cast,simprocAttr,U13])
 refine AW.w 11 U13 Tru fun K J1 K J2=>?_
 refine AW.sr 3 fun K J3=>?_
 simp only [push_cast,simprocAttr,U13]
 refine CThen.by (Jg1 q _) ?_
 simp only [push_cast,simprocAttr,U13]
 refine CThen.by (Jg1 b.lo _) ?_
 simp only [push_cast,simprocAttr,U13]
 try (refine CThen.by (Jg1 b.hi _) ?_;simp only [push_cast,simprocAttr,U13])
 exact AW.f U13 Tru
theorem Xz0 (b:BX)(q:V)(m:Ja1)(g0:¬q 0<b.lo 0)(g1:¬b.hi 0<q 0)(g2:¬q 1<b.lo 1)(g3:¬b.hi 1<q 1)(g4:¬q 2<b.lo 2)(g5:¬b.hi 2<q 2):Ctr Tryz.prog 260 [.agg (bxC b),.agg (c3C q)] m (.one (.bool true)) m:=by
 refine Ctr.en Tryz.func260 [.tmp 4] 28 fun hwf Q hQ=>?_
 have U14:=ca4 @Je6 @Ja5 @decide_true (ca4 @decide_false g0 g1 (ca4 g2 g3 g4 g5))
 refine AW.w 4 U14 Tru fun K J0=>?_
 refine AW.r 4 ?_
 refine AW.w 5 U14 Tru fun K J1 K J2=>?_
 refine AW.sr 3 fun K J3=>?_
 simp only [push_cast,simprocAttr,U14]
 refine CThen.by (Jc4 q _) ?_
 simp only [push_cast,simprocAttr,U14]
 refine CThen.by (Jc4 b.lo _) ?_
 simp only [push_cast,simprocAttr,U14]
 try (refine CThen.by (Jc4 b.hi _) ?_;simp only [push_cast,simprocAttr,U14])
 refine AW.w 11 U14 Tru fun K J1 K J2=>?_
 refine AW.sr 3 fun K J3=>?_
 simp only [push_cast,simprocAttr,U14]
 refine CThen.by (Jd5 q _) ?_
 simp only [push_cast,simprocAttr,U14]
 refine CThen.by (Jd5 b.lo _) ?_
 simp only [push_cast,simprocAttr,U14]
 try (refine CThen.by (Jd5 b.hi _) ?_;simp only [push_cast,simprocAttr,U14])
 refine AW.w 11 U14 Tru fun K J1 K J2=>?_
 refine AW.sr 3 fun K J3=>?_
 simp only [push_cast,simprocAttr,U14]
 refine CThen.by (Jg1 q _) ?_
 simp only [push_cast,simprocAttr,U14]
 refine CThen.by (Jg1 b.lo _) ?_
 simp only [push_cast,simprocAttr,U14]
 try (refine CThen.by (Jg1 b.hi _) ?_;simp only [push_cast,simprocAttr,U14])
 exact AW.f U14 Tru
theorem has_c (b:BX)(q:V)(m:Ja1)(z:Bool)(hz:z=true↔Ka9 b q):Ctr Tryz.prog 260 [.agg (bxC b),.agg (c3C q)] m (.one (.bool z)) m:=by
 by_cases g0:q 0<b.lo 0
 ·obtain rfl:z=false:=by
   cases z with
   | false=>rfl
   | true=>have:=(hz.1 rfl) 0 (by omega);omega
  exact Xz6 b q m g0
 by_cases g1:b.hi 0<q 0
 ·obtain rfl:z=false:=by
   cases z with
   | false=>rfl
   | true=>have:=(hz.1 rfl) 0 (by omega);omega
  exact Xz5 b q m g0 g1
 by_cases g2:q 1<b.lo 1
 ·obtain rfl:z=false:=by
   cases z with
   | false=>rfl
   | true=>have:=(hz.1 rfl) 1 (by omega);omega
  exact Xz4 b q m g0 g1 g2
 by_cases g3:b.hi 1<q 1
 ·obtain rfl:z=false:=by
   cases z with
   | false=>rfl
   | true=>have:=(hz.1 rfl) 1 (by omega);omega
  exact Xz3 b q m g0 g1 g2 g3
 by_cases g4:q 2<b.lo 2
 ·obtain rfl:z=false:=by
   cases z with
   | false=>rfl
   | true=>have:=(hz.1 rfl) 2 (by omega);omega
  exact Xz2 b q m g0 g1 g2 g3 g4
 by_cases g5:b.hi 2<q 2
 ·obtain rfl:z=false:=by
   cases z with
   | false=>rfl
   | true=>have:=(hz.1 rfl) 2 (by omega);omega
  exact Xz1 b q m g0 g1 g2 g3 g4 g5
 obtain rfl:z=true:=hz.2 fun k hk=>by
  match k,hk with
  | 0,_=>omega
  | 1,_=>omega
  | 2,_=>omega
 exact Xz0 b q m g0 g1 g2 g3 g4 g5
theorem Xh1 (b:BX)(q:V)(m:Ja1)(g0:q 0<b.lo 0):Ctr Tryz.prog 264 [.agg (bxC b),.agg (c3C q)] m (.one (.bool false)) m:=by
 refine Ctr.en Tryz.func264 [.tmp 4] 28 fun hwf Q hQ=>?_
 have U15:=ca4 @Je6 @Ja5 @decide_true (ca2 @decide_false g0)
 refine AW.w 4 U15 Tru fun K J0=>?_
 refine AW.r 4 ?_
 exact AW.fd [[.val,.val,.rd 0,.val,.val,.val,.rd 0,.val,.val,.val,.val,.rd 0,.val,.val,.val,.rd 0,.val,.val]] U15 Tru
theorem Xh0 (b:BX)(q:V)(m:Ja1)(g0:¬q 0<b.lo 0)(g1:b.hi 0<q 0):Ctr Tryz.prog 264 [.agg (bxC b),.agg (c3C q)] m (.one (.bool false)) m:=by
 refine Ctr.en Tryz.func264 [.tmp 4] 28 fun hwf Q hQ=>?_
 have U16:=ca4 @Je6 @Ja5 @decide_true (ca3 @decide_false g0 g1)
 refine AW.w 4 U16 Tru fun K J0=>?_
 refine AW.r 4 ?_
 exact AW.fd [[.val,.val,.rd 0,.val,.val,.val,.rd 0,.val,.val,.val,.val,.rd 0,.val,.val,.val,.rd 0,.val,.val]] U16 Tru
theorem Xg9 (b:BX)(q:V)(m:Ja1)(g0:¬q 0<b.lo 0)(g1:¬b.hi 0<q 0)(g2:q 1<b.lo 1):Ctr Tryz.prog 264 [.agg (bxC b),.agg (c3C q)] m (.one (.bool false)) m:=by
 refine Ctr.en Tryz.func264 [.tmp 4] 28 fun hwf Q hQ=>?_
 have U17:=ca4 @Je6 @Ja5 @decide_true (ca4 @decide_false g0 g1 g2)
 refine AW.w 4 U17 Tru fun K J0=>?_
 refine AW.r 4 ?_
 exact AW.fd [[.val,.val,.rd 0,.val,.val,.val,.rd 0,.val,.val,.val,.val,.rd 0,.val,.val,.val,.rd 0,.val,.val],[.val,.val,.rd 0,.val,.val,.val,.rd 0,.val,.val,.val,.val,.rd 0,.val,.val,.val,.rd 0,.val,.val]] U17 Tru
theorem Xg8 (b:BX)(q:V)(m:Ja1)(g0:¬q 0<b.lo 0)(g1:¬b.hi 0<q 0)(g2:¬q 1<b.lo 1)(g3:b.hi 1<q 1):Ctr Tryz.prog 264 [.agg (bxC b),.agg (c3C q)] m (.one (.bool false)) m:=by
 refine Ctr.en Tryz.func264 [.tmp 4] 28 fun hwf Q hQ=>?_
 have U18:=ca4 @Je6 @Ja5 @decide_true (ca4 @decide_false g0 g1 (ca2 g2 g3))
 refine AW.w 4 U18 Tru fun K J0=>?_
 refine AW.r 4 ?_
 exact AW.fd [[.val,.val,.rd 0,.val,.val,.val,.rd 0,.val,.val,.val,.val,.rd 0,.val,.val,.val,.rd 0,.val,.val],[.val,.val,.rd 0,.val,.val,.val,.rd 0,.val,.val,.val,.val,.rd 0,.val,.val,.val,.rd 0,.val,.val]] U18 Tru
theorem Xg7 (b:BX)(q:V)(m:Ja1)(g0:¬q 0<b.lo 0)(g1:¬b.hi 0<q 0)(g2:¬q 1<b.lo 1)(g3:¬b.hi 1<q 1)(g4:q 2<b.lo 2):Ctr Tryz.prog 264 [.agg (bxC b),.agg (c3C q)] m (.one (.bool false)) m:=by
 refine Ctr.en Tryz.func264 [.tmp 4] 28 fun hwf Q hQ=>?_
 have U19:=ca4 @Je6 @Ja5 @decide_true (ca4 @decide_false g0 g1 (ca3 g2 g3 g4))
 refine AW.w 4 U19 Tru fun K J0=>?_
 refine AW.r 4 ?_
 exact AW.fd [[.val,.val,.rd 0,.val,.val,.val,.rd 0,.val,.val,.val,.val,.rd 0,.val,.val,.val,.rd 0,.val,.val],[.val,.val,.rd 0,.val,.val,.val,.rd 0,.val,.val,.val,.val,.rd 0,.val,.val,.val,.rd 0,.val,.val],[.val,.val,.rd 0,.val,.val,.val,.rd 0,.val,.val,.val,.val,.rd 0,.val,.val,.val,.rd 0,.val,.val]] U19 Tru
theorem Xg6 (b:BX)(q:V)(m:Ja1)(g0:¬q 0<b.lo 0)(g1:¬b.hi 0<q 0)(g2:¬q 1<b.lo 1)(g3:¬b.hi 1<q 1)(g4:¬q 2<b.lo 2)(g5:b.hi 2<q 2):Ctr Tryz.prog 264 [.agg (bxC b),.agg (c3C q)] m (.one (.bool false)) m:=by
 refine Ctr.en Tryz.func264 [.tmp 4] 28 fun hwf Q hQ=>?_
 have U20:=ca4 @Je6 @Ja5 @decide_true (ca4 @decide_false g0 g1 (ca4 g2 g3 g4 g5))
 refine AW.w 4 U20 Tru fun K J0=>?_
 refine AW.r 4 ?_
 exact AW.fd [[.val,.val,.rd 0,.val,.val,.val,.rd 0,.val,.val,.val,.val,.rd 0,.val,.val,.val,.rd 0,.val,.val],[.val,.val,.rd 0,.val,.val,.val,.rd 0,.val,.val,.val,.val,.rd 0,.val,.val,.val,.rd 0,.val,.val],[.val,.val,.rd 0,.val,.val,.val,.rd 0,.val,.val,.val,.val,.rd 0,.val,.val,.val,.rd 0,.val,.val]] U20 Tru
theorem Xg5 (b:BX)(q:V)(m:Ja1)(g0:¬q 0<b.lo 0)(g1:¬b.hi 0<q 0)(g2:¬q 1<b.lo 1)(g3:¬b.hi 1<q 1)(g4:¬q 2<b.lo 2)(g5:¬b.hi 2<q 2):Ctr Tryz.prog 264 [.agg (bxC b),.agg (c3C q)] m (.one (.bool true)) m:=by
 refine Ctr.en Tryz.func264 [.tmp 4] 28 fun hwf Q hQ=>?_
 have U21:=ca4 @Je6 @Ja5 @decide_true (ca4 @decide_false g0 g1 (ca4 g2 g3 g4 g5))
 refine AW.w 4 U21 Tru fun K J0=>?_
 refine AW.r 4 ?_
 exact AW.fd [[.val,.val,.rd 0,.val,.val,.val,.rd 0,.val,.val,.val,.val,.rd 0,.val,.val,.val,.rd 0,.val,.val],[.val,.val,.rd 0,.val,.val,.val,.rd 0,.val,.val,.val,.val,.rd 0,.val,.val,.val,.rd 0,.val,.val],[.val,.val,.rd 0,.val,.val,.val,.rd 0,.val,.val,.val,.val,.rd 0,.val,.val,.val,.rd 0,.val,.val]] U21 Tru
theorem Xw0 (b:BX)(q:V)(m:Ja1)(z:Bool)(hz:z=true↔Ka9 b q):Ctr Tryz.prog 264 [.agg (bxC b),.agg (c3C q)] m (.one (.bool z)) m:=by
 by_cases g0:q 0<b.lo 0
 ·obtain rfl:z=false:=by
   cases z with
   | false=>rfl
   | true=>have:=(hz.1 rfl) 0 (by omega);omega
  exact Xh1 b q m g0
 by_cases g1:b.hi 0<q 0
 ·obtain rfl:z=false:=by
   cases z with
   | false=>rfl
   | true=>have:=(hz.1 rfl) 0 (by omega);omega
  exact Xh0 b q m g0 g1
 by_cases g2:q 1<b.lo 1
 ·obtain rfl:z=false:=by
   cases z with
   | false=>rfl
   | true=>have:=(hz.1 rfl) 1 (by omega);omega
  exact Xg9 b q m g0 g1 g2
 by_cases g3:b.hi 1<q 1
 ·obtain rfl:z=false:=by
   cases z with
   | false=>rfl
   | true=>have:=(hz.1 rfl) 1 (by omega);omega
  exact Xg8 b q m g0 g1 g2 g3
 by_cases g4:q 2<b.lo 2
 ·obtain rfl:z=false:=by
   cases z with
   | false=>rfl
   | true=>have:=(hz.1 rfl) 2 (by omega);omega
  exact Xg7 b q m g0 g1 g2 g3 g4
 by_cases g5:b.hi 2<q 2
 ·obtain rfl:z=false:=by
   cases z with
   | false=>rfl
   | true=>have:=(hz.1 rfl) 2 (by omega);omega
  exact Xg6 b q m g0 g1 g2 g3 g4 g5
 obtain rfl:z=true:=hz.2 fun k hk=>by
  match k,hk with
  | 0,_=>omega
  | 1,_=>omega
  | 2,_=>omega
 exact Xg5 b q m g0 g1 g2 g3 g4 g5
theorem Vv3 (a:V)(r v:Nat)(m:Ja1)(hb:∃ k ez,m[r]?=some ⟨k,54,v,ez,c3C a⟩):Ctr Tryz.prog 272 [.one (.sl r v 0 1)] m (.tup [(true,c3C a),(true,c3C a)]) m:=by
 refine Ctr.en Tryz.func272 [.cell 2 54,.cell 3 54] 62 fun hwf Q hQ=>?_
 obtain ⟨k0,ez,hb⟩:=hb
 have lb:=Ja7 hb
 have U1:=ca3 hb (Ja4 hb) @Ja5
 refine AW.wd [[.val,.val,.rd 0,.val,.val,.rw 0,.ext,.fl,.wr,.wr]] 5 U1 Tru fun K J0=>?_
 refine AW.r 1 ?_
 exact AW.fd [[.rd 0,.rw 0,.wr,.wr]] U1 Tru
theorem Vv2 (a b c:V)(r v:Nat)(m:Ja1)(hb:∃ k ez,m[r]?=some ⟨k,54,v,ez,c3C a++(c3C b++c3C c)⟩):Ctr Tryz.prog 272 [.one (.sl r v 0 3)] m (.tup [(true,c3C (fun k=>minI (minI (a k) (b k)) (c k))),(true,c3C (fun k=>maxI (maxI (a k) (b k)) (c k)))]) m:=by
 refine Ctr.en Tryz.func272 [.cell 2 54,.cell 3 54] 62 fun hwf Q hQ=>?_
 obtain ⟨k0,ez,hb⟩:=hb
 have lb:=Ja7 hb
 have U2:=ca3 hb (Ja4 hb) @Ja5
 refine AW.wd [[.val,.val,.rd 0,.val,.val,.rw 0,.ext,.fl,.wr,.wr]] 5 U2 Tru fun K J0=>?_
 refine AW.r 3 ?_
 refine AW.w 10 U2 Tru fun K J1 K J2=>?_
 refine AW.r 4 ?_
 refine AW.wd [[.val,.val,.val,.val,.val,.rd 0,.val,.val,.rd 0,.val]] 10 U2 Tru fun K J3 K J4 K J5=>?_
 refine AW.condJ rfl [0,2,3,4,5,6,7] [] [(m.length+2,⟨.fix,54,0,0,[.int .i64 (minI (a 0) (b 0)),.int .i64 (a 1),.int .i64 (a 2)]⟩)] (fun h33=>?_) (fun h33=>?_) ?_
 ·have hmn:minI (a 0) (b 0)=(b 0):=if_pos (of_decide_eq_true h33)
  refine AW.w 1 U2 Tru ?_
  try simp only [Ja9,Ja2,push_cast,simprocAttr,U2,hmn]
  exact Weak.same (by simp only [KS,simprocAttr,hmn]) (by first|rfl|simp only [KS,simprocAttr,hmn])
 ·have hmn:minI (a 0) (b 0)=(a 0):=if_neg (of_decide_eq_false h33)
  refine AW.w 1 Tru Tru ?_
  try simp only [Ja9,Ja2,push_cast,simprocAttr,U2,hmn]
  exact Weak.same (by simp only [KS,simprocAttr,hmn]) (by first|rfl|simp only [KS,simprocAttr,hmn])
 try simp only [Ja9,Ja2,push_cast,simprocAttr,U2]
 refine AW.wd [[.val,.val,.val,.val,.val,.rd 0,.val,.val,.rd 0,.val]] 2 U2 Tru ?_
 refine AW.condJ rfl [0,2,3,4,5,6,7] [] [(m.length+3,⟨.fix,54,0,0,[.int .i64 (maxI (a 0) (b 0)),.int .i64 (a 1),.int .i64 (a 2)]⟩)] (fun h51=>?_) (fun h51=>?_) ?_
 ·have hmn:maxI (a 0) (b 0)=(b 0):=if_pos (of_decide_eq_true h51)
  refine AW.w 1 U2 Tru ?_
  try simp only [Ja9,Ja2,push_cast,simprocAttr,U2,hmn]
  exact Weak.same (by simp only [KS,simprocAttr,hmn]) (by first|rfl|simp only [KS,simprocAttr,hmn])
 ·have hmn:maxI (a 0) (b 0)=(a 0):=if_neg (of_decide_eq_false h51)
  refine AW.w 1 Tru Tru ?_
  try simp only [Ja9,Ja2,push_cast,simprocAttr,U2,hmn]
  exact Weak.same (by simp only [KS,simprocAttr,hmn]) (by first|rfl|simp only [KS,simprocAttr,hmn])
 try simp only [Ja9,Ja2,push_cast,simprocAttr,U2]
 refine AW.wd [[.val,.val,.val,.val,.val,.rd 0,.val,.val,.rd 0,.val]] 13 U2 Tru fun K J3 K J4 K J5=>?_
 refine AW.condJ rfl [0,2,3,4,5,6,7] [] [(m.length+2,⟨.fix,54,0,0,[.int .i64 (minI (a 0) (b 0)),.int .i64 (minI (a 1) (b 1)),.int .i64 (a 2)]⟩)] (fun h33=>?_) (fun h33=>?_) ?_
 ·have hmn:minI (a 1) (b 1)=(b 1):=if_pos (of_decide_eq_true h33)
  refine AW.w 1 U2 Tru ?_
  try simp only [Ja9,Ja2,push_cast,simprocAttr,U2,hmn]
  exact Weak.same (by simp only [KS,simprocAttr,hmn]) (by first|rfl|simp only [KS,simprocAttr,hmn])
 ·have hmn:minI (a 1) (b 1)=(a 1):=if_neg (of_decide_eq_false h33)
  refine AW.w 1 Tru Tru ?_
  try simp only [Ja9,Ja2,push_cast,simprocAttr,U2,hmn]
  exact Weak.same (by simp only [KS,simprocAttr,hmn]) (by first|rfl|simp only [KS,simprocAttr,hmn])
 try simp only [Ja9,Ja2,push_cast,simprocAttr,U2]
 refine AW.wd [[.val,.val,.val,.val,.val,.rd 0,.val,.val,.rd 0,.val]] 2 U2 Tru ?_
 refine AW.condJ rfl [0,2,3,4,5,6,7] [] [(m.length+3,⟨.fix,54,0,0,[.int .i64 (maxI (a 0) (b 0)),.int .i64 (maxI (a 1) (b 1)),.int .i64 (a 2)]⟩)] (fun h51=>?_) (fun h51=>?_) ?_
 ·have hmn:maxI (a 1) (b 1)=(b 1):=if_pos (of_decide_eq_true h51)
  refine AW.w 1 U2 Tru ?_
  try simp only [Ja9,Ja2,push_cast,simprocAttr,U2,hmn]
  exact Weak.same (by simp only [KS,simprocAttr,hmn]) (by first|rfl|simp only [KS,simprocAttr,hmn])
 ·have hmn:maxI (a 1) (b 1)=(a 1):=if_neg (of_decide_eq_false h51)
  refine AW.w 1 Tru Tru ?_
  try simp only [Ja9,Ja2,push_cast,simprocAttr,U2,hmn]
  exact Weak.same (by simp only [KS,simprocAttr,hmn]) (by first|rfl|simp only [KS,simprocAttr,hmn])
 try simp only [Ja9,Ja2,push_cast,simprocAttr,U2]
 refine AW.wd [[.val,.val,.val,.val,.val,.rd 0,.val,.val,.rd 0,.val]] 13 U2 Tru fun K J3 K J4 K J5=>?_
 refine AW.condJ rfl [0,2,3,4,5,6,7] [] [(m.length+2,⟨.fix,54,0,0,[.int .i64 (minI (a 0) (b 0)),.int .i64 (minI (a 1) (b 1)),.int .i64 (minI (a 2) (b 2))]⟩)] (fun h33=>?_) (fun h33=>?_) ?_
 ·have hmn:minI (a 2) (b 2)=(b 2):=if_pos (of_decide_eq_true h33)
  refine AW.w 1 U2 Tru ?_
  try simp only [Ja9,Ja2,push_cast,simprocAttr,U2,hmn]
  exact Weak.same (by simp only [KS,simprocAttr,hmn]) (by first|rfl|simp only [KS,simprocAttr,hmn])
 ·have hmn:minI (a 2) (b 2)=(a 2):=if_neg (of_decide_eq_false h33)
  refine AW.w 1 Tru Tru ?_
  try simp only [Ja9,Ja2,push_cast,simprocAttr,U2,hmn]
  exact Weak.same (by simp only [KS,simprocAttr,hmn]) (by first|rfl|simp only [KS,simprocAttr,hmn])
 try simp only [Ja9,Ja2,push_cast,simprocAttr,U2]
 refine AW.wd [[.val,.val,.val,.val,.val,.rd 0,.val,.val,.rd 0,.val]] 2 U2 Tru ?_
 refine AW.condJ rfl [0,2,3,4,5,6,7] [] [(m.length+3,⟨.fix,54,0,0,[.int .i64 (maxI (a 0) (b 0)),.int .i64 (maxI (a 1) (b 1)),.int .i64 (maxI (a 2) (b 2))]⟩)] (fun h51=>?_) (fun h51=>?_) ?_
 ·have hmn:maxI (a 2) (b 2)=(b 2):=if_pos (of_decide_eq_true h51)
  refine AW.w 1 U2 Tru ?_
  try simp only [Ja9,Ja2,push_cast,simprocAttr,U2,hmn]
  exact Weak.same (by simp only [KS,simprocAttr,hmn]) (by first|rfl|simp only [KS,simprocAttr,hmn])
 ·have hmn:maxI (a 2) (b 2)=(a 2):=if_neg (of_decide_eq_false h51)
  refine AW.w 1 Tru Tru ?_
  try simp only [Ja9,Ja2,push_cast,simprocAttr,U2,hmn]
  exact Weak.same (by simp only [KS,simprocAttr,hmn]) (by first|rfl|simp only [KS,simprocAttr,hmn])
 try simp only [Ja9,Ja2,push_cast,simprocAttr,U2]
 refine AW.w 21 U2 Tru fun K J3 K J4 K J1 K J2=>?_
 refine AW.r 4 ?_
 refine AW.wd [[.val,.val,.val,.val,.val,.rd 0,.val,.val,.rd 0,.val]] 10 U2 Tru fun K J3 K J4 K J5=>?_
 refine AW.condJ rfl [0,2,3,4,5,6,7] [] [(m.length+2,⟨.fix,54,0,0,[.int .i64 (minI (minI (a 0) (b 0)) (c 0)),.int .i64 (minI (a 1) (b 1)),.int .i64 (minI (a 2) (b 2))]⟩)] (fun h33=>?_) (fun h33=>?_) ?_
 ·have hmn:minI (minI (a 0) (b 0)) (c 0)=(c 0):=if_pos (of_decide_eq_true h33)
  refine AW.w 1 U2 Tru ?_
  try simp only [Ja9,Ja2,push_cast,simprocAttr,U2,hmn]
  exact Weak.same (by simp only [KS,simprocAttr,hmn]) (by first|rfl|simp only [KS,simprocAttr,hmn])
 ·have hmn:minI (minI (a 0) (b 0)) (c 0)=(minI (a 0) (b 0)):=if_neg (of_decide_eq_false h33)
  refine AW.w 1 Tru Tru ?_
  try simp only [Ja9,Ja2,push_cast,simprocAttr,U2,hmn]
  exact Weak.same (by simp only [KS,simprocAttr,hmn]) (by first|rfl|simp only [KS,simprocAttr,hmn])
 try simp only [Ja9,Ja2,push_cast,simprocAttr,U2]
 refine AW.wd [[.val,.val,.val,.val,.val,.rd 0,.val,.val,.rd 0,.val]] 2 U2 Tru ?_
 refine AW.condJ rfl [0,2,3,4,5,6,7] [] [(m.length+3,⟨.fix,54,0,0,[.int .i64 (maxI (maxI (a 0) (b 0)) (c 0)),.int .i64 (maxI (a 1) (b 1)),.int .i64 (maxI (a 2) (b 2))]⟩)] (fun h51=>?_) (fun h51=>?_) ?_
 ·have hmn:maxI (maxI (a 0) (b 0)) (c 0)=(c 0):=if_pos (of_decide_eq_true h51)
  refine AW.w 1 U2 Tru ?_
  try simp only [Ja9,Ja2,push_cast,simprocAttr,U2,hmn]
  exact Weak.same (by simp only [KS,simprocAttr,hmn]) (by first|rfl|simp only [KS,simprocAttr,hmn])
 ·have hmn:maxI (maxI (a 0) (b 0)) (c 0)=(maxI (a 0) (b 0)):=if_neg (of_decide_eq_false h51)
  refine AW.w 1 Tru Tru ?_
  try simp only [Ja9,Ja2,push_cast,simprocAttr,U2,hmn]
  exact Weak.same (by simp only [KS,simprocAttr,hmn]) (by first|rfl|simp only [KS,simprocAttr,hmn])
 try simp only [Ja9,Ja2,push_cast,simprocAttr,U2]
 refine AW.wd [[.val,.val,.val,.val,.val,.rd 0,.val,.val,.rd 0,.val]] 13 U2 Tru fun K J3 K J4 K J5=>?_
 refine AW.condJ rfl [0,2,3,4,5,6,7] [] [(m.length+2,⟨.fix,54,0,0,[.int .i64 (minI (minI (a 0) (b 0)) (c 0)),.int .i64 (minI (minI (a 1) (b 1)) (c 1)),.int .i64 (minI (a 2) (b 2))]⟩)] (fun h33=>?_) (fun h33=>?_) ?_
 ·have hmn:minI (minI (a 1) (b 1)) (c 1)=(c 1):=if_pos (of_decide_eq_true h33)
  refine AW.w 1 U2 Tru ?_
  try simp only [Ja9,Ja2,push_cast,simprocAttr,U2,hmn]
  exact Weak.same (by simp only [KS,simprocAttr,hmn]) (by first|rfl|simp only [KS,simprocAttr,hmn])
 ·have hmn:minI (minI (a 1) (b 1)) (c 1)=(minI (a 1) (b 1)):=if_neg (of_decide_eq_false h33)
  refine AW.w 1 Tru Tru ?_
  try simp only [Ja9,Ja2,push_cast,simprocAttr,U2,hmn]
  exact Weak.same (by simp only [KS,simprocAttr,hmn]) (by first|rfl|simp only [KS,simprocAttr,hmn])
 try simp only [Ja9,Ja2,push_cast,simprocAttr,U2]
 refine AW.wd [[.val,.val,.val,.val,.val,.rd 0,.val,.val,.rd 0,.val]] 2 U2 Tru ?_
 refine AW.condJ rfl [0,2,3,4,5,6,7] [] [(m.length+3,⟨.fix,54,0,0,[.int .i64 (maxI (maxI (a 0) (b 0)) (c 0)),.int .i64 (maxI (maxI (a 1) (b 1)) (c 1)),.int .i64 (maxI (a 2) (b 2))]⟩)] (fun h51=>?_) (fun h51=>?_) ?_
 ·have hmn:maxI (maxI (a 1) (b 1)) (c 1)=(c 1):=if_pos (of_decide_eq_true h51)
  refine AW.w 1 U2 Tru ?_
  try simp only [Ja9,Ja2,push_cast,simprocAttr,U2,hmn]
  exact Weak.same (by simp only [KS,simprocAttr,hmn]) (by first|rfl|simp only [KS,simprocAttr,hmn])
 ·have hmn:maxI (maxI (a 1) (b 1)) (c 1)=(maxI (a 1) (b 1)):=if_neg (of_decide_eq_false h51)
  refine AW.w 1 Tru Tru ?_
  try simp only [Ja9,Ja2,push_cast,simprocAttr,U2,hmn]
  exact Weak.same (by simp only [KS,simprocAttr,hmn]) (by first|rfl|simp only [KS,simprocAttr,hmn])
 try simp only [Ja9,Ja2,push_cast,simprocAttr,U2]
 refine AW.wd [[.val,.val,.val,.val,.val,.rd 0,.val,.val,.rd 0,.val]] 13 U2 Tru fun K J3 K J4 K J5=>?_
 refine AW.condJ rfl [0,2,3,4,5,6,7] [] [(m.length+2,⟨.fix,54,0,0,[.int .i64 (minI (minI (a 0) (b 0)) (c 0)),.int .i64 (minI (minI (a 1) (b 1)) (c 1)),.int .i64 (minI (minI (a 2) (b 2)) (c 2))]⟩)] (fun h33=>?_) (fun h33=>?_) ?_
 ·have hmn:minI (minI (a 2) (b 2)) (c 2)=(c 2):=if_pos (of_decide_eq_true h33)
  refine AW.w 1 U2 Tru ?_
  try simp only [Ja9,Ja2,push_cast,simprocAttr,U2,hmn]
  exact Weak.same (by simp only [KS,simprocAttr,hmn]) (by first|rfl|simp only [KS,simprocAttr,hmn])
 ·have hmn:minI (minI (a 2) (b 2)) (c 2)=(minI (a 2) (b 2)):=if_neg (of_decide_eq_false h33)
  refine AW.w 1 Tru Tru ?_
  try simp only [Ja9,Ja2,push_cast,simprocAttr,U2,hmn]
  exact Weak.same (by simp only [KS,simprocAttr,hmn]) (by first|rfl|simp only [KS,simprocAttr,hmn])
 try simp only [Ja9,Ja2,push_cast,simprocAttr,U2]
 refine AW.wd [[.val,.val,.val,.val,.val,.rd 0,.val,.val,.rd 0,.val]] 2 U2 Tru ?_
 refine AW.condJ rfl [0,2,3,4,5,6,7] [] [(m.length+3,⟨.fix,54,0,0,[.int .i64 (maxI (maxI (a 0) (b 0)) (c 0)),.int .i64 (maxI (maxI (a 1) (b 1)) (c 1)),.int .i64 (maxI (maxI (a 2) (b 2)) (c 2))]⟩)] (fun h51=>?_) (fun h51=>?_) ?_
 ·have hmn:maxI (maxI (a 2) (b 2)) (c 2)=(c 2):=if_pos (of_decide_eq_true h51)
  refine AW.w 1 U2 Tru ?_
  try simp only [Ja9,Ja2,push_cast,simprocAttr,U2,hmn]
  exact Weak.same (by simp only [KS,simprocAttr,hmn]) (by first|rfl|simp only [KS,simprocAttr,hmn])
 ·have hmn:maxI (maxI (a 2) (b 2)) (c 2)=(maxI (a 2) (b 2)):=if_neg (of_decide_eq_false h51)
  refine AW.w 1 Tru Tru ?_
  try simp only [Ja9,Ja2,push_cast,simprocAttr,U2,hmn]
  exact Weak.same (by simp only [KS,simprocAttr,hmn]) (by first|rfl|simp only [KS,simprocAttr,hmn])
 try simp only [Ja9,Ja2,push_cast,simprocAttr,U2]
 exact AW.fd [[.rd 0,.rw 0,.wr,.wr]] U2 Tru
theorem Xv8 (a:V)(r v:Nat)(m:Ja1)(hb:∃ k ez,m[r]?=some ⟨k,54,v,ez,c3C a⟩):Ctr Tryz.prog 271 [.one (.sl r v 0 1)] m (.agg (bxC (⟨a,a⟩))) m:=by
 obtain ⟨k0,ez,hb⟩:=hb
 have lb:=Ja7 hb
 have U3:=ca2 @Je6 @Ja5
 exact Ctr.f Tryz.func271 [.cell 2 376] 13 U3 (Vv3 a r v _ ⟨k0,ez,Ja4 hb _⟩)
theorem Xv7 (a b c:V)(r v:Nat)(m:Ja1)(hb:∃ k ez,m[r]?=some ⟨k,54,v,ez,c3C a++(c3C b++c3C c)⟩):Ctr Tryz.prog 271 [.one (.sl r v 0 3)] m (.agg (bxC (⟨fun k=>minI (minI (a k) (b k)) (c k),fun k=>maxI (maxI (a k) (b k)) (c k)⟩))) m:=by
 obtain ⟨k0,ez,hb⟩:=hb
 have lb:=Ja7 hb
 have U4:=ca2 @Je6 @Ja5
 exact Ctr.f Tryz.func271 [.cell 2 376] 13 U4 (Vv2 a b c r v _ ⟨k0,ez,Ja4 hb _⟩)
theorem Qj3 (b:BX)(w:Int)(m:Ja1):Ctr Tryz.prog 270 [.agg (bxC b),.one (.int .i64 w)] m (.agg (bxC (⟨fun k=>Je1 (b.lo k) w,fun k=>Jc7 (b.hi k) w⟩))) m:=by
 have U5:=ca4 @Je6 @Ja5 @Qw1 @Qw5
 exact Ctr.fd Tryz.func270 [.cell 4 376] 19 [[.val,.rd 0,.rd 0,.ext,.val,.rd 0,.rd 0,.ext,.val,.wr]] U5 (ca2 (Je8 b.lo (fun _=>w)) (Ju3 b.hi (fun _=>w)))
theorem Qr9 (p:PL)(m:Ja1)(hk:(p.kind ==0)=true):Ctr Tryz.prog 265 [.agg (plC p)] m (.agg (bxC (Jc5 p))) m:=by
 refine Ctr.en Tryz.func265 [.cell 2 376] 27 fun hwf Q hQ=>?_
 have hv:Jc5 p=⟨fun k=>Je1 (p.P 0 k) (Jc7 p.r 8192),fun k=>Jc7 (p.P 0 k) (Jc7 p.r 8192)⟩:=by unfold Jc5;rw [if_pos (eq_of_beq hk)]
 rw [hv] at hQ
 have gx:=Jg4 p
 have U6:=ca4 gx hk @Je6 @Ja5
 refine AW.w 4 U6 Tru fun K J0=>?_
 refine AW.q fun K J1=>?_
 refine AW.draw [.val,.val,.rd 0,.ext,.ext,.val,.rd 0,.ext,.ext,.wr] fol (by decide) (by kernel_rfl) ?_
 simp only [push_cast,simprocAttr,U6]
 refine DExt.by (by first|rfl|exact (List.append_nil _).symm|(simp only [List.append_assoc,List.cons_append,List.nil_append];rfl)) ?_
 simp only [push_cast,simprocAttr,U6]
 refine DCall.z (Xv8 (p.P 0) _ 0 _ ⟨.grow,3,by simp only [push_cast,simprocAttr];rfl⟩) ?_
 simp only [push_cast,simprocAttr,U6]
 refine DCall.z (Jr8 _ _ _) ?_
 simp only [push_cast,simprocAttr,U6]
 refine DCall.z (Qj3 ⟨p.P 0,p.P 0⟩ (Jc7 p.r 8192) _) ?_
 simp only [push_cast,simprocAttr,U6]
 exact AW.f Tru Tru
theorem Qr8 (p:PL)(m:Ja1)(hk:(p.kind ==0)=false):Ctr Tryz.prog 265 [.agg (plC p)] m (.agg (bxC (Jc5 p))) m:=by
 refine Ctr.en Tryz.func265 [.cell 2 376] 27 fun hwf Q hQ=>?_
 have hv:Jc5 p=⟨fun k=>Je1 (lo3 p k) 8192,fun k=>Jc7 (hi3 p k) 8192⟩:=by unfold Jc5;rw [if_neg (by simpa using hk)]
 rw [hv] at hQ
 have gx:=Jg4 p
 have U7:=ca4 gx hk @Je6 @Ja5
 refine AW.w 6 U7 Tru ?_
 refine AW.sr 1 fun K J0=>?_
 simp only [push_cast,simprocAttr,U7]
 refine CThen.by (Xv7 (p.P 0) (p.P 1) (p.P 2) _ 0 _ ⟨.grow,3,by rw [Jf3];rfl⟩) ?_
 simp only [push_cast,simprocAttr,U7]
 refine CThen.by (Qj3 ⟨lo3 p,hi3 p⟩ 8192 _) ?_
 simp only [push_cast,simprocAttr,U7]
 exact AW.f Tru Tru
theorem Vb5 (p:PL)(m:Ja1):Ctr Tryz.prog 265 [.agg (plC p)] m (.agg (bxC (Jc5 p))) m:=by
 cases hk:(p.kind ==0)
 ·exact Qr8 p m hk
 exact Qr9 p m hk
theorem Ji7 (h:HT):htC h=(.int .i64 h.t::.int .i64 h.i::(c3C h.p++c3C h.n)):=rfl
theorem Jm5:z0V=(fun _=>0):=rfl
theorem Xm0 (P:PL)(r:RY)(t near far:Int)(m:Ja1)(g1:¬near<t):Ctr Tryz.prog 235 [.agg (ryC r),.agg (plC P),.one (.int .i64 t),.one (.int .i64 near),.one (.int .i64 far)] m (.tup [(true,htC (⟨t,0,Je3 r t,z0V⟩)),(false,[.bool false])]) m:=by
 refine Ctr.en Tryz.func235 [.cell 10 165,.tmp 11] 34 fun hwf Q hQ=>?_
 have U8:=ca4 @Jh1 @Jr0 @Je6 (ca4 @Ji7 @Ja5 @Jm5 (ca3 @decide_true @decide_false g1))
 refine AW.c 2 U8 (Kz3 r t) ?_
 refine AW.q fun K J0=>?_
 refine AW.draw [.rd 0,.val,.val,.val,.val,.val,.val,.val,.val,.val,.rd 0,.ext,.val,.rd 0,.ext,.val,.wr,.val] fol (by decide) (by kernel_rfl) ?_
 simp only [push_cast,simprocAttr,U8]
 exact AW.f Tru Tru
theorem Xg2 (P:PL)(r:RY)(t near far:Int)(m:Ja1)(g1:¬near<t):Ctr Tryz.prog 240 [.agg (ryC r),.agg (plC P),.one (.int .i64 t),.one (.int .i64 near),.one (.int .i64 far)] m (.one (.bool false)) m:=by
 refine Ctr.en Tryz.func240 [.tmp 10] 27 fun hwf Q hQ=>?_
 have U9:=ca4 @Jh1 @Jr0 @Je6 (ca4 @Ja5 @decide_true @decide_false g1)
 refine AW.c 1 U9 Tru ?_
 refine AW.q fun K J0=>?_
 refine AW.draw [.val,.val,.val,.val,.val,.val,.val,.val,.val,.rd 0,.ext,.rd 0,.val,.ext,.ext,.val,.val] fol (by decide) (by kernel_rfl) ?_
 simp only [push_cast,simprocAttr,U9]
 exact AW.f U9 Tru
theorem Xk9 (P:PL)(r:RY)(t near far:Int)(m:Ja1)(g1:near<t)(g2:¬t<=far):Ctr Tryz.prog 235 [.agg (ryC r),.agg (plC P),.one (.int .i64 t),.one (.int .i64 near),.one (.int .i64 far)] m (.tup [(true,htC (⟨t,0,Je3 r t,z0V⟩)),(false,[.bool false])]) m:=by
 refine Ctr.en Tryz.func235 [.cell 10 165,.tmp 11] 34 fun hwf Q hQ=>?_
 have U10:=ca4 @Jh1 @Jr0 @Je6 (ca4 @Ji7 @Ja5 @Jm5 (ca4 @decide_true @decide_false g1 g2))
 refine AW.c 2 U10 (Kz3 r t) ?_
 refine AW.q fun K J0=>?_
 refine AW.draw [.rd 0,.val,.val,.val,.val,.val,.val,.val,.val,.val,.rd 0,.ext,.val,.rd 0,.ext,.val,.wr,.val] fol (by decide) (by kernel_rfl) ?_
 simp only [push_cast,simprocAttr,U10]
 exact AW.f Tru Tru
theorem Xg1 (P:PL)(r:RY)(t near far:Int)(m:Ja1)(g1:near<t)(g2:¬t<=far):Ctr Tryz.prog 240 [.agg (ryC r),.agg (plC P),.one (.int .i64 t),.one (.int .i64 near),.one (.int .i64 far)] m (.one (.bool false)) m:=by
 refine Ctr.en Tryz.func240 [.tmp 10] 27 fun hwf Q hQ=>?_
 have U11:=ca4 @Jh1 @Jr0 @Je6 (ca4 @Ja5 @decide_true @decide_false (ca2 g1 g2))
 refine AW.c 1 U11 Tru ?_
 refine AW.q fun K J0=>?_
 refine AW.draw [.val,.val,.val,.val,.val,.val,.val,.val,.val,.rd 0,.ext,.rd 0,.val,.ext,.ext,.val,.val] fol (by decide) (by kernel_rfl) ?_
 simp only [push_cast,simprocAttr,U11]
 exact AW.f U11 Tru
theorem Xk8 (P:PL)(r:RY)(t near far:Int)(m:Ja1)(g1:near<t)(g2:t<=far)(z:Bool)(hz:z=true↔Ka9 (Jc5 P) (Je3 r t)):Ctr Tryz.prog 235 [.agg (ryC r),.agg (plC P),.one (.int .i64 t),.one (.int .i64 near),.one (.int .i64 far)] m (.tup [(true,htC (⟨t,0,Je3 r t,z0V⟩)),(false,[.bool z])]) m:=by
 have U12:=ca4 @Jh1 @Jr0 @Je6 (ca4 @Ji7 @Ja5 @Jm5 (ca4 @decide_true @decide_false g1 g2))
 exact Ctr.fd Tryz.func235 [.cell 10 165,.tmp 11] 34 [[.rd 0,.val,.val,.val,.val,.val,.val,.val,.val,.val,.rd 0,.ext,.val,.rd 0,.ext,.val,.wr,.val]] U12 (ca3 (Kz3 r t) (Jp9 P) (has_c (Jc5 P) (Je3 r t) _ z hz))
theorem Xg0 (P:PL)(r:RY)(t near far:Int)(m:Ja1)(g1:near<t)(g2:t<=far)(z:Bool)(hz:z=true↔Ka9 (Jc5 P) (Je3 r t)):Ctr Tryz.prog 240 [.agg (ryC r),.agg (plC P),.one (.int .i64 t),.one (.int .i64 near),.one (.int .i64 far)] m (.one (.bool z)) m:=by
 have U13:=ca4 @Jh1 @Jr0 @Je6 (ca4 @Ja5 @decide_true @decide_false (ca2 g1 g2))
 exact Ctr.fd Tryz.func240 [.tmp 10] 27 [[.val,.val,.val,.val,.val,.val,.val,.val,.val,.rd 0,.ext,.rd 0,.val,.ext,.ext,.val,.val]] U13 (ca3 (Vb5 P) (Ku9 r t) (Xw0 (Jc5 P) (Je3 r t) _ z hz))
theorem Kn1 (P:PL)(r:RY)(t near far:Int)(m:Ja1)(z:Bool)(hz:z=true↔(near<t/\t<=far/\Ka9 (Jc5 P) (Je3 r t))):Ctr Tryz.prog 235 [.agg (ryC r),.agg (plC P),.one (.int .i64 t),.one (.int .i64 near),.one (.int .i64 far)] m (.tup [(true,htC (⟨t,0,Je3 r t,z0V⟩)),(false,[.bool z])]) m:=by
 by_cases g1:near<t
 ·by_cases g2:t<=far
  ·exact Xk8 P r t near far m g1 g2 z ⟨fun h=>(hz.1 h).2.2,fun h=>hz.2 ⟨g1,g2,h⟩⟩
  obtain rfl:z=false:=by
   cases z with
   | false=>rfl
   | true=>exact absurd (hz.1 rfl).2.1 g2
  exact Xk9 P r t near far m g1 g2
 obtain rfl:z=false:=by
  cases z with
  | false=>rfl
  | true=>exact absurd (hz.1 rfl).1 g1
 exact Xm0 P r t near far m g1
theorem Kk9 (P:PL)(r:RY)(t near far:Int)(m:Ja1)(z:Bool)(hz:z=true↔(near<t/\t<=far/\Ka9 (Jc5 P) (Je3 r t))):Ctr Tryz.prog 240 [.agg (ryC r),.agg (plC P),.one (.int .i64 t),.one (.int .i64 near),.one (.int .i64 far)] m (.one (.bool z)) m:=by
 by_cases g1:near<t
 ·by_cases g2:t<=far
  ·exact Xg0 P r t near far m g1 g2 z ⟨fun h=>(hz.1 h).2.2,fun h=>hz.2 ⟨g1,g2,h⟩⟩
  obtain rfl:z=false:=by
   cases z with
   | false=>rfl
   | true=>exact absurd (hz.1 rfl).2.1 g2
  exact Xg1 P r t near far m g1 g2
 obtain rfl:z=false:=by
  cases z with
  | false=>rfl
  | true=>exact absurd (hz.1 rfl).1 g1
 exact Xg2 P r t near far m g1
def Kb5 (P:PL)(r:RY)(near far t:Int):Prop:=near<t/\t<=far/\Ka9 (Jc5 P) (Je3 r t)
noncomputable def Jj1 (r:RY)(P:PL)(t:Int):V:=Ko4 r.d (if P.kind=0 then Jb5 (Ja8 (Je3 r t) (P.P 0)) else Jb5 (Jd4 (Ja8 (P.P 1) (P.P 0)) (Ja8 (P.P 2) (P.P 0))))
noncomputable def htV (r:RY)(P:PL)(t:Int):HT:=⟨t,0,Je3 r t,Jj1 r P t⟩
theorem Jt2 (b:Int):-Ja3 b=Je1 0 b:=by
 unfold Je1
 have h0:Ja3 0=0:=by decide
 have hb:=Jc6 b
 rw [h0,Int.zero_sub]
 exact (Jb4 (by omega)).symm
structure BalE (r:RY)(P:PL)(A B C D R t1 t2:Int):Prop where
 hA:Je2 r.d r.d=A
 hB:Je2 (Ja8 r.o (P.P 0)) r.d=B
 hC:Je1 (Je2 (Ja8 r.o (P.P 0)) (Ja8 r.o (P.P 0))) (Jd3 P.r P.r)=C
 hD:Je1 (Jd3 B B) (Jd3 A C)=D
 hR:Jn7 D=R
 h1:Je4 (Je1 (-Ja3 B) R) A=t1
 h2:Je4 (Je1 R B) A=t2
theorem Vw4 (r:RY)(P:PL)(near far A B C D R t1 t2:Int)(m:Ja1)(hE:BalE r P A B C D R t1 t2)(hk:P.kind=0)(g:D<0):Ctr Tryz.prog 195 [.agg (ryC r),.agg (plC P),.one (.int .i64 near),.one (.int .i64 far)] m (.tup [(true,htC ht0),(false,[.bool false])]) m:=by
 refine Ctr.en Tryz.func195 [.cell 8 165,.tmp 9] 96 fun hwf Q hQ=>?_
 obtain ⟨hA,hB,hC,hD,hR,h1,h2⟩:=hE
 have gx:=Jg4 P
 have ng:=Jt2 B
 have hv:htC ht0=[.int .i64 0,.int .i64 0,.int .i64 0,.int .i64 0,.int .i64 0,.int .i64 0,.int .i64 0,.int .i64 0]:=rfl
 rw [hv] at hQ
 have U1:=ca4 gx @Jh1 @Ji7 (ca4 @Ja5 @Jm5 hA (ca4 hB hC hD (ca4 hR h1 h2 (ca3 g @decide_true @decide_false))))
 exact AW.fd [[.val,.rd 0,.val,.rd 0,.ext,.rd 0,.val,.rd 0,.ext,.val,.val],[.rd 0,.rd 0,.ext,.val,.rd 0,.val,.rd 0,.ext,.ext,.val]] U1 (ca4 (Jh4 r.o (P.P 0)) (Jf0 r.d r.d) (Jf0 (Ja8 r.o (P.P 0)) r.d) (ca3 (Jf0 (Ja8 r.o (P.P 0)) (Ja8 r.o (P.P 0))) Jk7 Jx0))
theorem Vb4 (r:RY)(P:PL)(near far A B C D R t1 t2:Int)(m:Ja1)(hE:BalE r P A B C D R t1 t2)(hk:P.kind=0)(g:D<0):Ctr Tryz.prog 200 [.agg (ryC r),.agg (plC P),.one (.int .i64 near),.one (.int .i64 far)] m (.tup [(true,htC ht0),(false,[.bool false])]) m:=by
 refine Ctr.en Tryz.func200 [.cell 8 183,.tmp 9] 98 fun hwf Q hQ=>?_
 obtain ⟨hA,hB,hC,hD,hR,h1,h2⟩:=hE
 have gx:=Jg4 P
 have ng:=Jt2 B
 have hv:htC ht0=[.int .i64 0,.int .i64 0,.int .i64 0,.int .i64 0,.int .i64 0,.int .i64 0,.int .i64 0,.int .i64 0]:=rfl
 rw [hv] at hQ
 have U2:=ca4 gx @Jh1 @Ji7 (ca4 @Ja5 @Jm5 hA (ca4 hB hC hD (ca4 hR h1 h2 (ca4 g @decide_true @decide_false ng.symm))))
 exact AW.fd [[.rd 0,.rd 0,.ext,.val,.rd 0,.val,.rd 0,.ext,.ext,.val]] U2 (ca4 (Je8 r.o (P.P 0)) (Jc8 r.d r.d) (Jc8 (Ja8 r.o (P.P 0)) r.d) (ca3 (Jc8 (Ja8 r.o (P.P 0)) (Ja8 r.o (P.P 0))) Ji2 Jr6))
theorem Vw3 (r:RY)(P:PL)(near far A B C D R t1 t2:Int)(m:Ja1)(hE:BalE r P A B C D R t1 t2)(hk:P.kind=0)(g:¬D<0)(ga:(A ==0)=true):Ctr Tryz.prog 195 [.agg (ryC r),.agg (plC P),.one (.int .i64 near),.one (.int .i64 far)] m (.tup [(true,htC ht0),(false,[.bool false])]) m:=by
 refine Ctr.en Tryz.func195 [.cell 8 165,.tmp 9] 96 fun hwf Q hQ=>?_
 obtain ⟨hA,hB,hC,hD,hR,h1,h2⟩:=hE
 have gx:=Jg4 P
 have ng:=Jt2 B
 have hv:htC ht0=[.int .i64 0,.int .i64 0,.int .i64 0,.int .i64 0,.int .i64 0,.int .i64 0,.int .i64 0,.int .i64 0]:=rfl
 rw [hv] at hQ
 have U3:=ca4 gx @Jh1 @Ji7 (ca4 @Ja5 @Jm5 hA (ca4 hB hC hD (ca4 hR h1 h2 (ca4 g @decide_true @decide_false ga))))
 exact AW.fd [[.val,.rd 0,.val,.rd 0,.ext,.rd 0,.val,.rd 0,.ext,.val,.val],[.rd 0,.rd 0,.ext,.val,.rd 0,.val,.rd 0,.ext,.ext,.val]] U3 (ca4 (Jh4 r.o (P.P 0)) (Jf0 r.d r.d) (Jf0 (Ja8 r.o (P.P 0)) r.d) (ca3 (Jf0 (Ja8 r.o (P.P 0)) (Ja8 r.o (P.P 0))) Jk7 Jx0))
theorem Vb3 (r:RY)(P:PL)(near far A B C D R t1 t2:Int)(m:Ja1)(hE:BalE r P A B C D R t1 t2)(hk:P.kind=0)(g:¬D<0)(ga:(A ==0)=true):Ctr Tryz.prog 200 [.agg (ryC r),.agg (plC P),.one (.int .i64 near),.one (.int .i64 far)] m (.tup [(true,htC ht0),(false,[.bool false])]) m:=by
 refine Ctr.en Tryz.func200 [.cell 8 183,.tmp 9] 98 fun hwf Q hQ=>?_
 obtain ⟨hA,hB,hC,hD,hR,h1,h2⟩:=hE
 have gx:=Jg4 P
 have ng:=Jt2 B
 have hv:htC ht0=[.int .i64 0,.int .i64 0,.int .i64 0,.int .i64 0,.int .i64 0,.int .i64 0,.int .i64 0,.int .i64 0]:=rfl
 rw [hv] at hQ
 have U4:=ca4 gx @Jh1 @Ji7 (ca4 @Ja5 @Jm5 hA (ca4 hB hC hD (ca4 hR h1 h2 (ca4 g @decide_true @decide_false (ca2 ga ng.symm)))))
 exact AW.fd [[.rd 0,.rd 0,.ext,.val,.rd 0,.val,.rd 0,.ext,.ext,.val]] U4 (ca4 (Je8 r.o (P.P 0)) (Jc8 r.d r.d) (Jc8 (Ja8 r.o (P.P 0)) r.d) (ca3 (Jc8 (Ja8 r.o (P.P 0)) (Ja8 r.o (P.P 0))) Ji2 Jr6))
theorem Xq6 (r:RY)(P:PL)(near far A B C D R t1 t2:Int)(m:Ja1)(hE:BalE r P A B C D R t1 t2)(hk:P.kind=0)(g:¬D<0)(ga:(A ==0)=false)(g1:Kb5 P r near far t1):Ctr Tryz.prog 195 [.agg (ryC r),.agg (plC P),.one (.int .i64 near),.one (.int .i64 far)] m (.tup [(true,htC (htV r P t1)),(false,[.bool true])]) m:=by
 refine Ctr.en Tryz.func195 [.cell 8 165,.tmp 9] 96 fun hwf Q hQ=>?_
 obtain ⟨hA,hB,hC,hD,hR,h1,h2⟩:=hE
 have gx:=Jg4 P
 have ng:=Jt2 B
 have hn:Jj1 r P t1=Ko4 r.d (Jb5 (Ja8 (Je3 r t1) (P.P 0))):=by unfold Jj1;rw [if_pos hk]
 have hv:htC (htV r P t1)=.int .i64 t1::.int .i64 0::(c3C (Je3 r t1)++c3C (Ko4 r.d (Jb5 (Ja8 (Je3 r t1) (P.P 0))))):=by unfold htV htC;rw [hn]
 rw [hv] at hQ
 have U5:=ca4 gx @Jh1 @Ji7 (ca4 @Ja5 @Jm5 hA (ca4 hB hC hD (ca4 hR h1 h2 (ca4 g @decide_true @decide_false ga))))
 refine AW.wd [[.val,.rd 0,.val,.rd 0,.ext,.rd 0,.val,.rd 0,.ext,.val,.val],[.rd 0,.rd 0,.ext,.val,.rd 0,.val,.rd 0,.ext,.ext,.val]] 14 U5 (ca4 (Jh4 r.o (P.P 0)) (Jf0 r.d r.d) (Jf0 (Ja8 r.o (P.P 0)) r.d) (ca4 (Jf0 (Ja8 r.o (P.P 0)) (Ja8 r.o (P.P 0))) Jk7 Jx0 (ca2 Qa0 Xk4))) fun K J0=>?_
 refine AW.r 3 ?_
 exact AW.fd [[.rd 0,.rd 0,.val,.val,.ext,.val,.val,.ext,.val,.val,.val,.fl,.wr,.val],[.rd 0,.val,.rd 0,.val,.val,.rd 0,.ext,.ext,.ext,.val,.wr]] U5 (ca4 Jr3 (Kn1 P r t1 near far _ true ⟨fun _=>g1,fun _=>rfl⟩) (Jh4 (Je3 r t1) (P.P 0)) (ca2 (Jr4 (Ja8 (Je3 r t1) (P.P 0))) (Kx0 r (Jb5 (Ja8 (Je3 r t1) (P.P 0))))))
theorem Vp4 (r:RY)(P:PL)(near far A B C D R t1 t2:Int)(m:Ja1)(hE:BalE r P A B C D R t1 t2)(hk:P.kind=0)(g:¬D<0)(ga:(A ==0)=false)(g1:Kb5 P r near far t1):Ctr Tryz.prog 200 [.agg (ryC r),.agg (plC P),.one (.int .i64 near),.one (.int .i64 far)] m (.tup [(true,htC (htV r P t1)),(false,[.bool true])]) m:=by
 refine Ctr.en Tryz.func200 [.cell 8 183,.tmp 9] 98 fun hwf Q hQ=>?_
 obtain ⟨hA,hB,hC,hD,hR,h1,h2⟩:=hE
 have gx:=Jg4 P
 have ng:=Jt2 B
 have hn:Jj1 r P t1=Ko4 r.d (Jb5 (Ja8 (Je3 r t1) (P.P 0))):=by unfold Jj1;rw [if_pos hk]
 have hv:htC (htV r P t1)=.int .i64 t1::.int .i64 0::(c3C (Je3 r t1)++c3C (Ko4 r.d (Jb5 (Ja8 (Je3 r t1) (P.P 0))))):=by unfold htV htC;rw [hn]
 rw [hv] at hQ
 have U6:=ca4 gx @Jh1 @Ji7 (ca4 @Ja5 @Jm5 hA (ca4 hB hC hD (ca4 hR h1 h2 (ca4 g @decide_true @decide_false (ca2 ga ng.symm)))))
 exact AW.fd [[.rd 0,.rd 0,.ext,.val,.rd 0,.val,.rd 0,.ext,.ext,.val],[.val,.rd 0,.rd 0,.rd 0,.rd 0,.ext,.ext,.ext,.val,.wr,.val]] U6 (ca4 (Je8 r.o (P.P 0)) (Jc8 r.d r.d) (Jc8 (Ja8 r.o (P.P 0)) r.d) (ca4 (Jc8 (Ja8 r.o (P.P 0)) (Ja8 r.o (P.P 0))) Ji2 Jr6 (ca4 Kk7 Jj8 (Kk9 P r t1 near far _ true ⟨fun _=>g1,fun _=>rfl⟩) (ca4 (Ku9 r t1) (Je8 (Je3 r t1) (P.P 0)) (Jm7 (Ja8 (Je3 r t1) (P.P 0))) (Km0 r (Jb5 (Ja8 (Je3 r t1) (P.P 0))))))))
theorem Xq5 (r:RY)(P:PL)(near far A B C D R t1 t2:Int)(m:Ja1)(hE:BalE r P A B C D R t1 t2)(hk:P.kind=0)(g:¬D<0)(ga:(A ==0)=false)(g1:¬Kb5 P r near far t1)(g2:Kb5 P r near far t2):Ctr Tryz.prog 195 [.agg (ryC r),.agg (plC P),.one (.int .i64 near),.one (.int .i64 far)] m (.tup [(true,htC (htV r P t2)),(false,[.bool true])]) m:=by
 refine Ctr.en Tryz.func195 [.cell 8 165,.tmp 9] 96 fun hwf Q hQ=>?_
 obtain ⟨hA,hB,hC,hD,hR,h1,h2⟩:=hE
 have gx:=Jg4 P
 have ng:=Jt2 B
 have hn:Jj1 r P t2=Ko4 r.d (Jb5 (Ja8 (Je3 r t2) (P.P 0))):=by unfold Jj1;rw [if_pos hk]
 have hv:htC (htV r P t2)=.int .i64 t2::.int .i64 0::(c3C (Je3 r t2)++c3C (Ko4 r.d (Jb5 (Ja8 (Je3 r t2) (P.P 0))))):=by unfold htV htC;rw [hn]
 rw [hv] at hQ
 have U7:=ca4 gx @Jh1 @Ji7 (ca4 @Ja5 @Jm5 hA (ca4 hB hC hD (ca4 hR h1 h2 (ca4 g @decide_true @decide_false ga))))
 refine AW.wd [[.val,.rd 0,.val,.rd 0,.ext,.rd 0,.val,.rd 0,.ext,.val,.val],[.rd 0,.rd 0,.ext,.val,.rd 0,.val,.rd 0,.ext,.ext,.val]] 14 U7 (ca4 (Jh4 r.o (P.P 0)) (Jf0 r.d r.d) (Jf0 (Ja8 r.o (P.P 0)) r.d) (ca4 (Jf0 (Ja8 r.o (P.P 0)) (Ja8 r.o (P.P 0))) Jk7 Jx0 (ca2 Qa0 Xk4))) fun K J0=>?_
 refine AW.r 3 ?_
 exact AW.fd [[.rd 0,.rd 0,.val,.val,.ext,.val,.val,.ext,.val,.val,.val,.fl,.wr,.val],[.rd 0,.rd 0,.val,.val,.ext,.val,.val,.ext,.val,.val,.val,.fl,.wr,.val],[.rd 0,.val,.rd 0,.val,.val,.rd 0,.ext,.ext,.ext,.val,.wr]] U7 (ca4 Jr3 (Kn1 P r t1 near far _ false ⟨fun h=>(by cases h),fun h=>absurd h g1⟩) (Kn1 P r t2 near far _ true ⟨fun _=>g2,fun _=>rfl⟩) (ca3 (Jh4 (Je3 r t2) (P.P 0)) (Jr4 (Ja8 (Je3 r t2) (P.P 0))) (Kx0 r (Jb5 (Ja8 (Je3 r t2) (P.P 0))))))
theorem Vp3 (r:RY)(P:PL)(near far A B C D R t1 t2:Int)(m:Ja1)(hE:BalE r P A B C D R t1 t2)(hk:P.kind=0)(g:¬D<0)(ga:(A ==0)=false)(g1:¬Kb5 P r near far t1)(g2:Kb5 P r near far t2):Ctr Tryz.prog 200 [.agg (ryC r),.agg (plC P),.one (.int .i64 near),.one (.int .i64 far)] m (.tup [(true,htC (htV r P t2)),(false,[.bool true])]) m:=by
 refine Ctr.en Tryz.func200 [.cell 8 183,.tmp 9] 98 fun hwf Q hQ=>?_
 obtain ⟨hA,hB,hC,hD,hR,h1,h2⟩:=hE
 have gx:=Jg4 P
 have ng:=Jt2 B
 have hn:Jj1 r P t2=Ko4 r.d (Jb5 (Ja8 (Je3 r t2) (P.P 0))):=by unfold Jj1;rw [if_pos hk]
 have hv:htC (htV r P t2)=.int .i64 t2::.int .i64 0::(c3C (Je3 r t2)++c3C (Ko4 r.d (Jb5 (Ja8 (Je3 r t2) (P.P 0))))):=by unfold htV htC;rw [hn]
 rw [hv] at hQ
 have U8:=ca4 gx @Jh1 @Ji7 (ca4 @Ja5 @Jm5 hA (ca4 hB hC hD (ca4 hR h1 h2 (ca4 g @decide_true @decide_false (ca2 ga ng.symm)))))
 exact AW.fd [[.rd 0,.rd 0,.ext,.val,.rd 0,.val,.rd 0,.ext,.ext,.val],[.val,.rd 0,.rd 0,.rd 0,.rd 0,.ext,.ext,.ext,.val,.wr,.val]] U8 (ca4 (Je8 r.o (P.P 0)) (Jc8 r.d r.d) (Jc8 (Ja8 r.o (P.P 0)) r.d) (ca4 (Jc8 (Ja8 r.o (P.P 0)) (Ja8 r.o (P.P 0))) Ji2 Jr6 (ca4 Kk7 Jj8 (Kk9 P r t1 near far _ false ⟨fun h=>(by cases h),fun h=>absurd h g1⟩) (ca4 (Kk9 P r t2 near far _ true ⟨fun _=>g2,fun _=>rfl⟩) (Ku9 r t2) (Je8 (Je3 r t2) (P.P 0)) (ca2 (Jm7 (Ja8 (Je3 r t2) (P.P 0))) (Km0 r (Jb5 (Ja8 (Je3 r t2) (P.P 0)))))))))
theorem Yd4 (r:RY)(P:PL)(near far A B C D R t1 t2:Int)(m:Ja1)(hE:BalE r P A B C D R t1 t2)(hk:P.kind=0)(g:¬D<0)(ga:(A ==0)=false)(g1:¬Kb5 P r near far t1)(g2:¬Kb5 P r near far t2):Ctr Tryz.prog 195 [.agg (ryC r),.agg (plC P),.one (.int .i64 near),.one (.int .i64 far)] m (.tup [(true,htC ht0),(false,[.bool false])]) m:=by
 refine Ctr.en Tryz.func195 [.cell 8 165,.tmp 9] 96 fun hwf Q hQ=>?_
 obtain ⟨hA,hB,hC,hD,hR,h1,h2⟩:=hE
 have gx:=Jg4 P
 have ng:=Jt2 B
 have hv:htC ht0=[.int .i64 0,.int .i64 0,.int .i64 0,.int .i64 0,.int .i64 0,.int .i64 0,.int .i64 0,.int .i64 0]:=rfl
 rw [hv] at hQ
 have U9:=ca4 gx @Jh1 @Ji7 (ca4 @Ja5 @Jm5 hA (ca4 hB hC hD (ca4 hR h1 h2 (ca4 g @decide_true @decide_false ga))))
 refine AW.wd [[.val,.rd 0,.val,.rd 0,.ext,.rd 0,.val,.rd 0,.ext,.val,.val],[.rd 0,.rd 0,.ext,.val,.rd 0,.val,.rd 0,.ext,.ext,.val]] 14 U9 (ca4 (Jh4 r.o (P.P 0)) (Jf0 r.d r.d) (Jf0 (Ja8 r.o (P.P 0)) r.d) (ca4 (Jf0 (Ja8 r.o (P.P 0)) (Ja8 r.o (P.P 0))) Jk7 Jx0 (ca2 Qa0 Xk4))) fun K J0=>?_
 refine AW.r 3 ?_
 exact AW.fd [[.rd 0,.rd 0,.val,.val,.ext,.val,.val,.ext,.val,.val,.val,.fl,.wr,.val],[.rd 0,.rd 0,.val,.val,.ext,.val,.val,.ext,.val,.val,.val,.fl,.wr,.val]] U9 (ca3 Jr3 (Kn1 P r t1 near far _ false ⟨fun h=>(by cases h),fun h=>absurd h g1⟩) (Kn1 P r t2 near far _ false ⟨fun h=>(by cases h),fun h=>absurd h g2⟩))
theorem Xj3 (r:RY)(P:PL)(near far A B C D R t1 t2:Int)(m:Ja1)(hE:BalE r P A B C D R t1 t2)(hk:P.kind=0)(g:¬D<0)(ga:(A ==0)=false)(g1:¬Kb5 P r near far t1)(g2:¬Kb5 P r near far t2):Ctr Tryz.prog 200 [.agg (ryC r),.agg (plC P),.one (.int .i64 near),.one (.int .i64 far)] m (.tup [(true,htC ht0),(false,[.bool false])]) m:=by
 refine Ctr.en Tryz.func200 [.cell 8 183,.tmp 9] 98 fun hwf Q hQ=>?_
 obtain ⟨hA,hB,hC,hD,hR,h1,h2⟩:=hE
 have gx:=Jg4 P
 have ng:=Jt2 B
 have hv:htC ht0=[.int .i64 0,.int .i64 0,.int .i64 0,.int .i64 0,.int .i64 0,.int .i64 0,.int .i64 0,.int .i64 0]:=rfl
 rw [hv] at hQ
 have U10:=ca4 gx @Jh1 @Ji7 (ca4 @Ja5 @Jm5 hA (ca4 hB hC hD (ca4 hR h1 h2 (ca4 g @decide_true @decide_false (ca2 ga ng.symm)))))
 exact AW.fd [[.rd 0,.rd 0,.ext,.val,.rd 0,.val,.rd 0,.ext,.ext,.val]] U10 (ca4 (Je8 r.o (P.P 0)) (Jc8 r.d r.d) (Jc8 (Ja8 r.o (P.P 0)) r.d) (ca4 (Jc8 (Ja8 r.o (P.P 0)) (Ja8 r.o (P.P 0))) Ji2 Jr6 (ca4 Kk7 Jj8 (Kk9 P r t1 near far _ false ⟨fun h=>(by cases h),fun h=>absurd h g1⟩) (Kk9 P r t2 near far _ false ⟨fun h=>(by cases h),fun h=>absurd h g2⟩))))
structure FacE (r:RY)(P:PL)(e1 e2 h s q:V)(D U W t1:Int):Prop where
 h1:e1=Ja8 (P.P 1) (P.P 0)
 h2:e2=Ja8 (P.P 2) (P.P 0)
 hh:h=Jd4 r.d e2
 hD:Je2 e1 h=D
 hs:s=Ja8 r.o (P.P 0)
 hU:Je4 (Je2 s h) D=U
 hq:q=Jd4 s e1
 hW:Je4 (Je2 r.d q) D=W
 ht:Je4 (Je2 e2 q) D=t1
theorem Vu3 (r:RY)(P:PL)(near far:Int)(e1 e2 h s q:V)(D U W t1:Int)(m:Ja1)(hE:FacE r P e1 e2 h s q D U W t1)(hk:¬P.kind=0)(g0:(D ==0)=true):Ctr Tryz.prog 196 [.agg (ryC r),.agg (plC P),.one (.int .i64 near),.one (.int .i64 far)] m (.tup [(true,htC ht0),(false,[.bool false])]) m:=by
 refine Ctr.en Tryz.func196 [.cell 8 165,.tmp 9] 101 fun hwf Q hQ=>?_
 obtain ⟨h1,h2,hh,hD,hs,hU,hq,hW,ht⟩:=hE
 have gx:=Jg4 P
 have hv:htC ht0=[.int .i64 0,.int .i64 0,.int .i64 0,.int .i64 0,.int .i64 0,.int .i64 0,.int .i64 0,.int .i64 0]:=rfl
 rw [hv] at hQ
 have U1:=ca4 gx @Jh1 @Ji7 (ca4 @Ja5 @Jm5 hD (ca4 hU hW ht (ca3 @decide_true @decide_false g0)))
 refine AW.c 1 U1 Tru ?_
 have q_1:=Jh4 (P.P 1) (P.P 0)
 rw [<-h1] at q_1
 have q_2:=Jh4 (P.P 2) (P.P 0)
 rw [<-h2] at q_2
 refine AW.d [.val,.val,.rd 0,.val,.val,.rd 0,.ext,.val,.val,.rd 0,.val,.val,.rd 0,.ext,.fl,.fl,.wr,.wr] fol U1 (ca2 q_1 q_2) ?_
 have q_3:=Jn3 r.d e2
 rw [<-hh] at q_3
 exact AW.f U1 (ca2 q_3 (Jf0 e1 h))
theorem Va9 (r:RY)(P:PL)(near far:Int)(e1 e2 h s q:V)(D U W t1:Int)(m:Ja1)(hE:FacE r P e1 e2 h s q D U W t1)(hk:¬P.kind=0)(g0:(D ==0)=true):Ctr Tryz.prog 201 [.agg (ryC r),.agg (plC P),.one (.int .i64 near),.one (.int .i64 far)] m (.tup [(true,htC ht0),(false,[.bool false])]) m:=by
 refine Ctr.en Tryz.func201 [.cell 8 183,.tmp 9] 100 fun hwf Q hQ=>?_
 obtain ⟨h1,h2,hh,hD,hs,hU,hq,hW,ht⟩:=hE
 have gx:=Jg4 P
 have hv:htC ht0=[.int .i64 0,.int .i64 0,.int .i64 0,.int .i64 0,.int .i64 0,.int .i64 0,.int .i64 0,.int .i64 0]:=rfl
 rw [hv] at hQ
 have q_4:=Je8 (P.P 1) (P.P 0)
 rw [<-h1] at q_4
 have q_5:=Je8 (P.P 2) (P.P 0)
 rw [<-h2] at q_5
 have q_6:=Ji3 r.d e2
 rw [<-hh] at q_6
 have U2:=ca4 gx @Jh1 @Ji7 (ca4 @Ja5 @Jm5 hD (ca4 hU hW ht (ca3 @decide_true @decide_false g0)))
 exact AW.f U2 (ca4 q_4 q_5 q_6 (Jc8 e1 h))
theorem Vu2 (r:RY)(P:PL)(near far:Int)(e1 e2 h s q:V)(D U W t1:Int)(m:Ja1)(hE:FacE r P e1 e2 h s q D U W t1)(hk:¬P.kind=0)(g0:(D ==0)=false)(g1:U<0):Ctr Tryz.prog 196 [.agg (ryC r),.agg (plC P),.one (.int .i64 near),.one (.int .i64 far)] m (.tup [(true,htC ht0),(false,[.bool false])]) m:=by
 refine Ctr.en Tryz.func196 [.cell 8 165,.tmp 9] 101 fun hwf Q hQ=>?_
 obtain ⟨h1,h2,hh,hD,hs,hU,hq,hW,ht⟩:=hE
 have gx:=Jg4 P
 have hv:htC ht0=[.int .i64 0,.int .i64 0,.int .i64 0,.int .i64 0,.int .i64 0,.int .i64 0,.int .i64 0,.int .i64 0]:=rfl
 rw [hv] at hQ
 have U3:=ca4 gx @Jh1 @Ji7 (ca4 @Ja5 @Jm5 hD (ca4 hU hW ht (ca4 @decide_true @decide_false g0 g1)))
 refine AW.c 1 U3 Tru ?_
 have q_7:=Jh4 (P.P 1) (P.P 0)
 rw [<-h1] at q_7
 have q_8:=Jh4 (P.P 2) (P.P 0)
 rw [<-h2] at q_8
 refine AW.d [.val,.val,.rd 0,.val,.val,.rd 0,.ext,.val,.val,.rd 0,.val,.val,.rd 0,.ext,.fl,.fl,.wr,.wr] fol U3 (ca2 q_7 q_8) ?_
 have q_9:=Jn3 r.d e2
 rw [<-hh] at q_9
 refine AW.w 7 U3 (ca2 q_9 (Jf0 e1 h)) ?_
 have q_10:=Jh4 r.o (P.P 0)
 rw [<-hs] at q_10
 have q_11:=Jn3 s e1
 rw [<-hq] at q_11
 refine AW.c 4 U3 (ca4 q_10 (Jf0 s h) Jr3 (ca2 q_11 (Jf0 r.d q))) ?_
 refine AW.q fun K J0=>?_
 refine AW.sr 1 fun K J1=>?_
 simp only [push_cast,simprocAttr,U3]
 exact AW.f U3 Tru
theorem Va8 (r:RY)(P:PL)(near far:Int)(e1 e2 h s q:V)(D U W t1:Int)(m:Ja1)(hE:FacE r P e1 e2 h s q D U W t1)(hk:¬P.kind=0)(g0:(D ==0)=false)(g1:U<0):Ctr Tryz.prog 201 [.agg (ryC r),.agg (plC P),.one (.int .i64 near),.one (.int .i64 far)] m (.tup [(true,htC ht0),(false,[.bool false])]) m:=by
 refine Ctr.en Tryz.func201 [.cell 8 183,.tmp 9] 100 fun hwf Q hQ=>?_
 obtain ⟨h1,h2,hh,hD,hs,hU,hq,hW,ht⟩:=hE
 have gx:=Jg4 P
 have hv:htC ht0=[.int .i64 0,.int .i64 0,.int .i64 0,.int .i64 0,.int .i64 0,.int .i64 0,.int .i64 0,.int .i64 0]:=rfl
 rw [hv] at hQ
 have q_12:=Je8 (P.P 1) (P.P 0)
 rw [<-h1] at q_12
 have q_13:=Je8 (P.P 2) (P.P 0)
 rw [<-h2] at q_13
 have q_14:=Ji3 r.d e2
 rw [<-hh] at q_14
 have U4:=ca4 gx @Jh1 @Ji7 (ca4 @Ja5 @Jm5 hD (ca4 hU hW ht (ca4 @decide_true @decide_false g0 g1)))
 refine AW.w 10 U4 (ca4 q_12 q_13 q_14 (Jc8 e1 h)) ?_
 have q_15:=Je8 r.o (P.P 0)
 rw [<-hs] at q_15
 have q_16:=Ji3 s e1
 rw [<-hq] at q_16
 refine AW.c 4 U4 (ca4 q_15 (Jc8 s h) Jj8 (ca2 q_16 (Jc8 r.d q))) ?_
 refine AW.q fun K J0=>?_
 refine AW.sr 1 fun K J1=>?_
 simp only [push_cast,simprocAttr,U4]
 exact AW.f U4 Tru
theorem Vu1 (r:RY)(P:PL)(near far:Int)(e1 e2 h s q:V)(D U W t1:Int)(m:Ja1)(hE:FacE r P e1 e2 h s q D U W t1)(hk:¬P.kind=0)(g0:(D ==0)=false)(g1:¬U<0)(g2:W<0):Ctr Tryz.prog 196 [.agg (ryC r),.agg (plC P),.one (.int .i64 near),.one (.int .i64 far)] m (.tup [(true,htC ht0),(false,[.bool false])]) m:=by
 refine Ctr.en Tryz.func196 [.cell 8 165,.tmp 9] 101 fun hwf Q hQ=>?_
 obtain ⟨h1,h2,hh,hD,hs,hU,hq,hW,ht⟩:=hE
 have gx:=Jg4 P
 have hv:htC ht0=[.int .i64 0,.int .i64 0,.int .i64 0,.int .i64 0,.int .i64 0,.int .i64 0,.int .i64 0,.int .i64 0]:=rfl
 rw [hv] at hQ
 have U5:=ca4 gx @Jh1 @Ji7 (ca4 @Ja5 @Jm5 hD (ca4 hU hW ht (ca4 @decide_true @decide_false g0 (ca2 g1 g2))))
 refine AW.c 1 U5 Tru ?_
 have q_17:=Jh4 (P.P 1) (P.P 0)
 rw [<-h1] at q_17
 have q_18:=Jh4 (P.P 2) (P.P 0)
 rw [<-h2] at q_18
 refine AW.d [.val,.val,.rd 0,.val,.val,.rd 0,.ext,.val,.val,.rd 0,.val,.val,.rd 0,.ext,.fl,.fl,.wr,.wr] fol U5 (ca2 q_17 q_18) ?_
 have q_19:=Jn3 r.d e2
 rw [<-hh] at q_19
 refine AW.w 7 U5 (ca2 q_19 (Jf0 e1 h)) ?_
 have q_20:=Jh4 r.o (P.P 0)
 rw [<-hs] at q_20
 have q_21:=Jn3 s e1
 rw [<-hq] at q_21
 refine AW.c 4 U5 (ca4 q_20 (Jf0 s h) Jr3 (ca2 q_21 (Jf0 r.d q))) ?_
 refine AW.q fun K J0=>?_
 refine AW.sr 1 fun K J1=>?_
 simp only [push_cast,simprocAttr,U5]
 exact AW.f U5 Tru
theorem Va7 (r:RY)(P:PL)(near far:Int)(e1 e2 h s q:V)(D U W t1:Int)(m:Ja1)(hE:FacE r P e1 e2 h s q D U W t1)(hk:¬P.kind=0)(g0:(D ==0)=false)(g1:¬U<0)(g2:W<0):Ctr Tryz.prog 201 [.agg (ryC r),.agg (plC P),.one (.int .i64 near),.one (.int .i64 far)] m (.tup [(true,htC ht0),(false,[.bool false])]) m:=by
 refine Ctr.en Tryz.func201 [.cell 8 183,.tmp 9] 100 fun hwf Q hQ=>?_
 obtain ⟨h1,h2,hh,hD,hs,hU,hq,hW,ht⟩:=hE
 have gx:=Jg4 P
 have hv:htC ht0=[.int .i64 0,.int .i64 0,.int .i64 0,.int .i64 0,.int .i64 0,.int .i64 0,.int .i64 0,.int .i64 0]:=rfl
 rw [hv] at hQ
 have q_22:=Je8 (P.P 1) (P.P 0)
 rw [<-h1] at q_22
 have q_23:=Je8 (P.P 2) (P.P 0)
 rw [<-h2] at q_23
 have q_24:=Ji3 r.d e2
 rw [<-hh] at q_24
 have U6:=ca4 gx @Jh1 @Ji7 (ca4 @Ja5 @Jm5 hD (ca4 hU hW ht (ca4 @decide_true @decide_false g0 (ca2 g1 g2))))
 refine AW.w 10 U6 (ca4 q_22 q_23 q_24 (Jc8 e1 h)) ?_
 have q_25:=Je8 r.o (P.P 0)
 rw [<-hs] at q_25
 have q_26:=Ji3 s e1
 rw [<-hq] at q_26
 refine AW.c 4 U6 (ca4 q_25 (Jc8 s h) Jj8 (ca2 q_26 (Jc8 r.d q))) ?_
 refine AW.q fun K J0=>?_
 refine AW.sr 1 fun K J1=>?_
 simp only [push_cast,simprocAttr,U6]
 exact AW.f U6 Tru
theorem Vu0 (r:RY)(P:PL)(near far:Int)(e1 e2 h s q:V)(D U W t1:Int)(m:Ja1)(hE:FacE r P e1 e2 h s q D U W t1)(hk:¬P.kind=0)(g0:(D ==0)=false)(g1:¬U<0)(g2:¬W<0)(g3:65536<Jc7 U W):Ctr Tryz.prog 196 [.agg (ryC r),.agg (plC P),.one (.int .i64 near),.one (.int .i64 far)] m (.tup [(true,htC ht0),(false,[.bool false])]) m:=by
 refine Ctr.en Tryz.func196 [.cell 8 165,.tmp 9] 101 fun hwf Q hQ=>?_
 obtain ⟨h1,h2,hh,hD,hs,hU,hq,hW,ht⟩:=hE
 have gx:=Jg4 P
 have hv:htC ht0=[.int .i64 0,.int .i64 0,.int .i64 0,.int .i64 0,.int .i64 0,.int .i64 0,.int .i64 0,.int .i64 0]:=rfl
 rw [hv] at hQ
 have U7:=ca4 gx @Jh1 @Ji7 (ca4 @Ja5 @Jm5 hD (ca4 hU hW ht (ca4 @decide_true @decide_false g0 (ca3 g1 g2 g3))))
 refine AW.c 1 U7 Tru ?_
 have q_27:=Jh4 (P.P 1) (P.P 0)
 rw [<-h1] at q_27
 have q_28:=Jh4 (P.P 2) (P.P 0)
 rw [<-h2] at q_28
 refine AW.d [.val,.val,.rd 0,.val,.val,.rd 0,.ext,.val,.val,.rd 0,.val,.val,.rd 0,.ext,.fl,.fl,.wr,.wr] fol U7 (ca2 q_27 q_28) ?_
 have q_29:=Jn3 r.d e2
 rw [<-hh] at q_29
 refine AW.w 7 U7 (ca2 q_29 (Jf0 e1 h)) ?_
 have q_30:=Jh4 r.o (P.P 0)
 rw [<-hs] at q_30
 have q_31:=Jn3 s e1
 rw [<-hq] at q_31
 exact AW.f U7 (ca4 q_30 (Jf0 s h) Jr3 (ca3 q_31 (Jf0 r.d q) Jw7))
theorem Va6 (r:RY)(P:PL)(near far:Int)(e1 e2 h s q:V)(D U W t1:Int)(m:Ja1)(hE:FacE r P e1 e2 h s q D U W t1)(hk:¬P.kind=0)(g0:(D ==0)=false)(g1:¬U<0)(g2:¬W<0)(g3:65536<Jc7 U W):Ctr Tryz.prog 201 [.agg (ryC r),.agg (plC P),.one (.int .i64 near),.one (.int .i64 far)] m (.tup [(true,htC ht0),(false,[.bool false])]) m:=by
 refine Ctr.en Tryz.func201 [.cell 8 183,.tmp 9] 100 fun hwf Q hQ=>?_
 obtain ⟨h1,h2,hh,hD,hs,hU,hq,hW,ht⟩:=hE
 have gx:=Jg4 P
 have hv:htC ht0=[.int .i64 0,.int .i64 0,.int .i64 0,.int .i64 0,.int .i64 0,.int .i64 0,.int .i64 0,.int .i64 0]:=rfl
 rw [hv] at hQ
 have q_32:=Je8 (P.P 1) (P.P 0)
 rw [<-h1] at q_32
 have q_33:=Je8 (P.P 2) (P.P 0)
 rw [<-h2] at q_33
 have q_34:=Ji3 r.d e2
 rw [<-hh] at q_34
 have U8:=ca4 gx @Jh1 @Ji7 (ca4 @Ja5 @Jm5 hD (ca4 hU hW ht (ca4 @decide_true @decide_false g0 (ca3 g1 g2 g3))))
 refine AW.w 10 U8 (ca4 q_32 q_33 q_34 (Jc8 e1 h)) ?_
 have q_35:=Je8 r.o (P.P 0)
 rw [<-hs] at q_35
 have q_36:=Ji3 s e1
 rw [<-hq] at q_36
 exact AW.f U8 (ca4 q_35 (Jc8 s h) Jj8 (ca3 q_36 (Jc8 r.d q) Jr8))
theorem Ya2 (r:RY)(P:PL)(near far:Int)(e1 e2 h s q:V)(D U W t1:Int)(m:Ja1)(hE:FacE r P e1 e2 h s q D U W t1)(hk:¬P.kind=0)(g0:(D ==0)=false)(g1:¬U<0)(g2:¬W<0)(g3:¬65536<Jc7 U W)(gm:¬Kb5 P r near far t1):Ctr Tryz.prog 196 [.agg (ryC r),.agg (plC P),.one (.int .i64 near),.one (.int .i64 far)] m (.tup [(true,htC ht0),(false,[.bool false])]) m:=by
 refine Ctr.en Tryz.func196 [.cell 8 165,.tmp 9] 101 fun hwf Q hQ=>?_
 obtain ⟨h1,h2,hh,hD,hs,hU,hq,hW,ht⟩:=hE
 have gx:=Jg4 P
 have hv:htC ht0=[.int .i64 0,.int .i64 0,.int .i64 0,.int .i64 0,.int .i64 0,.int .i64 0,.int .i64 0,.int .i64 0]:=rfl
 rw [hv] at hQ
 have U9:=ca4 gx @Jh1 @Ji7 (ca4 @Ja5 @Jm5 hD (ca4 hU hW ht (ca4 @decide_true @decide_false g0 (ca3 g1 g2 g3))))
 refine AW.c 1 U9 Tru ?_
 have q_37:=Jh4 (P.P 1) (P.P 0)
 rw [<-h1] at q_37
 have q_38:=Jh4 (P.P 2) (P.P 0)
 rw [<-h2] at q_38
 refine AW.d [.val,.val,.rd 0,.val,.val,.rd 0,.ext,.val,.val,.rd 0,.val,.val,.rd 0,.ext,.fl,.fl,.wr,.wr] fol U9 (ca2 q_37 q_38) ?_
 have q_39:=Jn3 r.d e2
 rw [<-hh] at q_39
 refine AW.w 7 U9 (ca2 q_39 (Jf0 e1 h)) ?_
 have q_40:=Jh4 r.o (P.P 0)
 rw [<-hs] at q_40
 have q_41:=Jn3 s e1
 rw [<-hq] at q_41
 exact AW.fd [[.rd 0,.rd 0,.rd 0,.rd 0,.ext,.val,.ext,.val,.val,.ext,.val,.val,.val,.fl,.wr,.val]] U9 (ca4 q_40 (Jf0 s h) Jr3 (ca4 q_41 (Jf0 r.d q) Jw7 (ca2 (Jf0 e2 q) (Kn1 P r t1 near far _ false ⟨fun h=>(by cases h),fun h=>absurd h gm⟩))))
theorem Xh7 (r:RY)(P:PL)(near far:Int)(e1 e2 h s q:V)(D U W t1:Int)(m:Ja1)(hE:FacE r P e1 e2 h s q D U W t1)(hk:¬P.kind=0)(g0:(D ==0)=false)(g1:¬U<0)(g2:¬W<0)(g3:¬65536<Jc7 U W)(gm:¬Kb5 P r near far t1):Ctr Tryz.prog 201 [.agg (ryC r),.agg (plC P),.one (.int .i64 near),.one (.int .i64 far)] m (.tup [(true,htC ht0),(false,[.bool false])]) m:=by
 refine Ctr.en Tryz.func201 [.cell 8 183,.tmp 9] 100 fun hwf Q hQ=>?_
 obtain ⟨h1,h2,hh,hD,hs,hU,hq,hW,ht⟩:=hE
 have gx:=Jg4 P
 have hv:htC ht0=[.int .i64 0,.int .i64 0,.int .i64 0,.int .i64 0,.int .i64 0,.int .i64 0,.int .i64 0,.int .i64 0]:=rfl
 rw [hv] at hQ
 have q_42:=Je8 (P.P 1) (P.P 0)
 rw [<-h1] at q_42
 have q_43:=Je8 (P.P 2) (P.P 0)
 rw [<-h2] at q_43
 have q_44:=Ji3 r.d e2
 rw [<-hh] at q_44
 have U10:=ca4 gx @Jh1 @Ji7 (ca4 @Ja5 @Jm5 hD (ca4 hU hW ht (ca4 @decide_true @decide_false g0 (ca3 g1 g2 g3))))
 refine AW.w 10 U10 (ca4 q_42 q_43 q_44 (Jc8 e1 h)) ?_
 have q_45:=Je8 r.o (P.P 0)
 rw [<-hs] at q_45
 have q_46:=Ji3 s e1
 rw [<-hq] at q_46
 exact AW.f U10 (ca4 q_45 (Jc8 s h) Jj8 (ca4 q_46 (Jc8 r.d q) Jr8 (ca2 (Jc8 e2 q) (Kk9 P r t1 near far _ false ⟨fun h=>(by cases h),fun h=>absurd h gm⟩))))
theorem Ya1 (r:RY)(P:PL)(near far:Int)(e1 e2 h s q:V)(D U W t1:Int)(m:Ja1)(hE:FacE r P e1 e2 h s q D U W t1)(hk:¬P.kind=0)(g0:(D ==0)=false)(g1:¬U<0)(g2:¬W<0)(g3:¬65536<Jc7 U W)(gm:Kb5 P r near far t1):Ctr Tryz.prog 196 [.agg (ryC r),.agg (plC P),.one (.int .i64 near),.one (.int .i64 far)] m (.tup [(true,htC (htV r P t1)),(false,[.bool true])]) m:=by
 refine Ctr.en Tryz.func196 [.cell 8 165,.tmp 9] 101 fun hwf Q hQ=>?_
 obtain ⟨h1,h2,hh,hD,hs,hU,hq,hW,ht⟩:=hE
 have gx:=Jg4 P
 have hn:Jj1 r P t1=Ko4 r.d (Jb5 (Jd4 e1 e2)):=by unfold Jj1;rw [if_neg hk,h1,h2]
 have hv:htC (htV r P t1)=.int .i64 t1::.int .i64 0::(c3C (Je3 r t1)++c3C (Ko4 r.d (Jb5 (Jd4 e1 e2)))):=by unfold htV htC;rw [hn]
 rw [hv] at hQ
 have U11:=ca4 gx @Jh1 @Ji7 (ca4 @Ja5 @Jm5 hD (ca4 hU hW ht (ca4 @decide_true @decide_false g0 (ca3 g1 g2 g3))))
 refine AW.c 1 U11 Tru ?_
 have q_47:=Jh4 (P.P 1) (P.P 0)
 rw [<-h1] at q_47
 have q_48:=Jh4 (P.P 2) (P.P 0)
 rw [<-h2] at q_48
 refine AW.d [.val,.val,.rd 0,.val,.val,.rd 0,.ext,.val,.val,.rd 0,.val,.val,.rd 0,.ext,.fl,.fl,.wr,.wr] fol U11 (ca2 q_47 q_48) ?_
 have q_49:=Jn3 r.d e2
 rw [<-hh] at q_49
 refine AW.w 7 U11 (ca2 q_49 (Jf0 e1 h)) ?_
 have q_50:=Jh4 r.o (P.P 0)
 rw [<-hs] at q_50
 have q_51:=Jn3 s e1
 rw [<-hq] at q_51
 exact AW.fd [[.rd 0,.rd 0,.rd 0,.rd 0,.ext,.val,.ext,.val,.val,.ext,.val,.val,.val,.fl,.wr,.val],[.rd 0,.rd 0,.rd 0,.ext,.ext,.ext,.val,.wr]] U11 (ca4 q_50 (Jf0 s h) Jr3 (ca4 q_51 (Jf0 r.d q) Jw7 (ca4 (Jf0 e2 q) (Kn1 P r t1 near far _ true ⟨fun _=>gm,fun _=>rfl⟩) (Jn3 e1 e2) (ca2 (Jr4 (Jd4 e1 e2)) (Kx0 r (Jb5 (Jd4 e1 e2)))))))
theorem Xh6 (r:RY)(P:PL)(near far:Int)(e1 e2 h s q:V)(D U W t1:Int)(m:Ja1)(hE:FacE r P e1 e2 h s q D U W t1)(hk:¬P.kind=0)(g0:(D ==0)=false)(g1:¬U<0)(g2:¬W<0)(g3:¬65536<Jc7 U W)(gm:Kb5 P r near far t1):Ctr Tryz.prog 201 [.agg (ryC r),.agg (plC P),.one (.int .i64 near),.one (.int .i64 far)] m (.tup [(true,htC (htV r P t1)),(false,[.bool true])]) m:=by
 refine Ctr.en Tryz.func201 [.cell 8 183,.tmp 9] 100 fun hwf Q hQ=>?_
 obtain ⟨h1,h2,hh,hD,hs,hU,hq,hW,ht⟩:=hE
 have gx:=Jg4 P
 have hn:Jj1 r P t1=Ko4 r.d (Jb5 (Jd4 e1 e2)):=by unfold Jj1;rw [if_neg hk,h1,h2]
 have hv:htC (htV r P t1)=.int .i64 t1::.int .i64 0::(c3C (Je3 r t1)++c3C (Ko4 r.d (Jb5 (Jd4 e1 e2)))):=by unfold htV htC;rw [hn]
 rw [hv] at hQ
 have q_52:=Je8 (P.P 1) (P.P 0)
 rw [<-h1] at q_52
 have q_53:=Je8 (P.P 2) (P.P 0)
 rw [<-h2] at q_53
 have q_54:=Ji3 r.d e2
 rw [<-hh] at q_54
 have U12:=ca4 gx @Jh1 @Ji7 (ca4 @Ja5 @Jm5 hD (ca4 hU hW ht (ca4 @decide_true @decide_false g0 (ca3 g1 g2 g3))))
 refine AW.w 10 U12 (ca4 q_52 q_53 q_54 (Jc8 e1 h)) ?_
 have q_55:=Je8 r.o (P.P 0)
 rw [<-hs] at q_55
 have q_56:=Ji3 s e1
 rw [<-hq] at q_56
 exact AW.fd [[.val,.rd 0,.val,.ext,.rd 0,.rd 0,.rd 0,.ext,.ext,.ext,.val,.wr,.val]] U12 (ca4 q_55 (Jc8 s h) Jj8 (ca4 q_56 (Jc8 r.d q) Jr8 (ca4 (Jc8 e2 q) (Kk9 P r t1 near far _ true ⟨fun _=>gm,fun _=>rfl⟩) (Ku9 r t1) (ca3 (Ji3 e1 e2) (Jm7 (Jd4 e1 e2)) (Km0 r (Jb5 (Jd4 e1 e2)))))))
open Classical in
noncomputable def Jw5 (r:RY)(P:PL):List Int :=
  if P.kind=0 then
    if Je1 (Jd3 (Je2 (Ja8 r.o (P.P 0)) r.d) (Je2 (Ja8 r.o (P.P 0)) r.d)) (Jd3 (Je2 r.d r.d) (Je1 (Je2 (Ja8 r.o (P.P 0)) (Ja8 r.o (P.P 0))) (Jd3 P.r P.r)))<0\/Je2 r.d r.d=0 then [] else
      [Je4 (Je1 (-Ja3 (Je2 (Ja8 r.o (P.P 0)) r.d)) (Jn7 (Je1 (Jd3 (Je2 (Ja8 r.o (P.P 0)) r.d) (Je2 (Ja8 r.o (P.P 0)) r.d)) (Jd3 (Je2 r.d r.d) (Je1 (Je2 (Ja8 r.o (P.P 0)) (Ja8 r.o (P.P 0))) (Jd3 P.r P.r)))))) (Je2 r.d r.d),
       Je4 (Je1 (Jn7 (Je1 (Jd3 (Je2 (Ja8 r.o (P.P 0)) r.d) (Je2 (Ja8 r.o (P.P 0)) r.d)) (Jd3 (Je2 r.d r.d) (Je1 (Je2 (Ja8 r.o (P.P 0)) (Ja8 r.o (P.P 0))) (Jd3 P.r P.r))))) (Je2 (Ja8 r.o (P.P 0)) r.d)) (Je2 r.d r.d)]
  else
    if Je2 (Ja8 (P.P 1) (P.P 0)) (Jd4 r.d (Ja8 (P.P 2) (P.P 0)))=0 \/
       Je4 (Je2 (Ja8 r.o (P.P 0)) (Jd4 r.d (Ja8 (P.P 2) (P.P 0)))) (Je2 (Ja8 (P.P 1) (P.P 0)) (Jd4 r.d (Ja8 (P.P 2) (P.P 0))))<0 \/
       Je4 (Je2 r.d (Jd4 (Ja8 r.o (P.P 0)) (Ja8 (P.P 1) (P.P 0)))) (Je2 (Ja8 (P.P 1) (P.P 0)) (Jd4 r.d (Ja8 (P.P 2) (P.P 0))))<0 \/
       65536<Jc7 (Je4 (Je2 (Ja8 r.o (P.P 0)) (Jd4 r.d (Ja8 (P.P 2) (P.P 0)))) (Je2 (Ja8 (P.P 1) (P.P 0)) (Jd4 r.d (Ja8 (P.P 2) (P.P 0))))) (Je4 (Je2 r.d (Jd4 (Ja8 r.o (P.P 0)) (Ja8 (P.P 1) (P.P 0)))) (Je2 (Ja8 (P.P 1) (P.P 0)) (Jd4 r.d (Ja8 (P.P 2) (P.P 0))))) then [] else
      [Je4 (Je2 (Ja8 (P.P 2) (P.P 0)) (Jd4 (Ja8 r.o (P.P 0)) (Ja8 (P.P 1) (P.P 0)))) (Je2 (Ja8 (P.P 1) (P.P 0)) (Jd4 r.d (Ja8 (P.P 2) (P.P 0))))]
open Classical in
noncomputable def Js1 (r:RY)(P:PL)(near far:Int):Option Int:=Xn2 (Jw5 r P) (fun t=>decide (Ka9 (Jc5 P) (Je3 r t))) near far
noncomputable def Jv1 (r:RY)(P:PL):Option Int->HT × Bool
 | none=>(ht0,false)
 | some t=>(htV r P t,true)
open Classical in
theorem Ka5 (r:RY)(P:PL)(near far t:Int):okT (fun t=>decide (Ka9 (Jc5 P) (Je3 r t))) near far t=true↔Kb5 P r near far t:=by
 unfold okT Kb5;simp [and_assoc]
theorem Jk6 {r:RY}{P:PL}{near far:Int}(h:Jw5 r P=[]):Js1 r P near far=none:=by unfold Js1;rw [h];rfl
theorem Qn0 {r:RY}{P:PL}{near far t:Int}(h:Jw5 r P=[t]):(Kb5 P r near far t->Js1 r P near far=some t)/\(¬Kb5 P r near far t->Js1 r P near far=none):=by
 unfold Js1 Xn2;rw [h]
 refine ⟨fun g=>?_,fun g=>?_⟩
 ·rw [List.find?_cons_of_pos ((Ka5 r P near far t).2 g)]
 rw [List.find?_cons_of_neg (fun q=>g ((Ka5 r P near far t).1 q))];rfl
theorem Qm9 {r:RY}{P:PL}{near far t u:Int}(h:Jw5 r P=[t,u]):(Kb5 P r near far t->Js1 r P near far=some t)/\(¬Kb5 P r near far t->Kb5 P r near far u->Js1 r P near far=some u)/\(¬Kb5 P r near far t->¬Kb5 P r near far u->Js1 r P near far=none):=by
 unfold Js1 Xn2;rw [h]
 refine ⟨fun g=>?_,fun g g2=>?_,fun g g2=>?_⟩
 ·rw [List.find?_cons_of_pos ((Ka5 r P near far t).2 g)]
 ·rw [List.find?_cons_of_neg (fun q=>g ((Ka5 r P near far t).1 q)),List.find?_cons_of_pos ((Ka5 r P near far u).2 g2)]
 rw [List.find?_cons_of_neg (fun q=>g ((Ka5 r P near far t).1 q)),List.find?_cons_of_neg (fun q=>g2 ((Ka5 r P near far u).1 q))];rfl
theorem Yd5 (r:RY)(P:PL)(near far:Int)(m:Ja1)(hk:P.kind=0):Ctr Tryz.prog 195 [.agg (ryC r),.agg (plC P),.one (.int .i64 near),.one (.int .i64 far)] m (.tup [(true,htC (Jv1 r P (Js1 r P near far)).1),(false,[.bool (Jv1 r P (Js1 r P near far)).2])]) m:=by
 obtain ⟨A,hA⟩:∃ A,Je2 r.d r.d=A:=⟨_,rfl⟩
 obtain ⟨B,hB⟩:∃ B,Je2 (Ja8 r.o (P.P 0)) r.d=B:=⟨_,rfl⟩
 obtain ⟨C,hC⟩:∃ C,Je1 (Je2 (Ja8 r.o (P.P 0)) (Ja8 r.o (P.P 0))) (Jd3 P.r P.r)=C:=⟨_,rfl⟩
 obtain ⟨D,hD⟩:∃ D,Je1 (Jd3 B B) (Jd3 A C)=D:=⟨_,rfl⟩
 obtain ⟨R,hR⟩:∃ R,Jn7 D=R:=⟨_,rfl⟩
 obtain ⟨t1,h1⟩:∃ t,Je4 (Je1 (-Ja3 B) R) A=t:=⟨_,rfl⟩
 obtain ⟨t2,h2⟩:∃ t,Je4 (Je1 R B) A=t:=⟨_,rfl⟩
 have hE:BalE r P A B C D R t1 t2:=⟨hA,hB,hC,hD,hR,h1,h2⟩
 have hc:Jw5 r P=if D<0\/A=0 then [] else [t1,t2]:=by
  unfold Jw5;rw [if_pos hk,hA,hB,hC,hD,hR,h1,h2]
 by_cases g:D<0
 ·rw [Jk6 (by rw [hc,if_pos (.inl g)])];exact Vw4 r P near far A B C D R t1 t2 m hE hk g
 by_cases ga:A=0
 ·rw [Jk6 (by rw [hc,if_pos (.inr ga)])];exact Vw3 r P near far A B C D R t1 t2 m hE hk g (by rw [ga];rfl)
 have gb:(A ==0)=false:=by simpa using ga
 have hc2:Jw5 r P=[t1,t2]:=by rw [hc,if_neg (fun h=>h.elim g ga)]
 obtain ⟨k1,k2,k3⟩:=Qm9 (near:=near) (far:=far) hc2
 by_cases g1:Kb5 P r near far t1
 ·rw [k1 g1];exact Xq6 r P near far A B C D R t1 t2 m hE hk g gb g1
 by_cases g2:Kb5 P r near far t2
 ·rw [k2 g1 g2];exact Xq5 r P near far A B C D R t1 t2 m hE hk g gb g1 g2
 rw [k3 g1 g2];exact Yd4 r P near far A B C D R t1 t2 m hE hk g gb g1 g2
theorem Ya3 (r:RY)(P:PL)(near far:Int)(m:Ja1)(hk:¬P.kind=0):Ctr Tryz.prog 196 [.agg (ryC r),.agg (plC P),.one (.int .i64 near),.one (.int .i64 far)] m (.tup [(true,htC (Jv1 r P (Js1 r P near far)).1),(false,[.bool (Jv1 r P (Js1 r P near far)).2])]) m:=by
 obtain ⟨e1,h1⟩:∃ e,e=Ja8 (P.P 1) (P.P 0):=⟨_,rfl⟩
 obtain ⟨e2,h2⟩:∃ e,e=Ja8 (P.P 2) (P.P 0):=⟨_,rfl⟩
 obtain ⟨h,hh⟩:∃ h,h=Jd4 r.d e2:=⟨_,rfl⟩
 obtain ⟨D,hD⟩:∃ D,Je2 e1 h=D:=⟨_,rfl⟩
 obtain ⟨s,hs⟩:∃ s,s=Ja8 r.o (P.P 0):=⟨_,rfl⟩
 obtain ⟨U,hU⟩:∃ U,Je4 (Je2 s h) D=U:=⟨_,rfl⟩
 obtain ⟨q,hq⟩:∃ q,q=Jd4 s e1:=⟨_,rfl⟩
 obtain ⟨W,hW⟩:∃ W,Je4 (Je2 r.d q) D=W:=⟨_,rfl⟩
 obtain ⟨t1,ht⟩:∃ t,Je4 (Je2 e2 q) D=t:=⟨_,rfl⟩
 have hE:FacE r P e1 e2 h s q D U W t1:=⟨h1,h2,hh,hD,hs,hU,hq,hW,ht⟩
 have hc:Jw5 r P=if D=0\/U<0\/W<0\/65536<Jc7 U W then [] else [t1]:=by
  unfold Jw5;rw [if_neg hk,<-h1,<-h2,<-hh,<-hs,<-hq,hD,hU,hW,ht]
 by_cases g0:D=0
 ·rw [Jk6 (by rw [hc,if_pos (.inl g0)])];exact Vu3 r P near far e1 e2 h s q D U W t1 m hE hk (by rw [g0];rfl)
 have gb:(D ==0)=false:=by simpa using g0
 by_cases g1:U<0
 ·rw [Jk6 (by rw [hc,if_pos (.inr (.inl g1))])];exact Vu2 r P near far e1 e2 h s q D U W t1 m hE hk gb g1
 by_cases g2:W<0
 ·rw [Jk6 (by rw [hc,if_pos (.inr (.inr (.inl g2)))])];exact Vu1 r P near far e1 e2 h s q D U W t1 m hE hk gb g1 g2
 by_cases g3:65536<Jc7 U W
 ·rw [Jk6 (by rw [hc,if_pos (.inr (.inr (.inr g3)))])];exact Vu0 r P near far e1 e2 h s q D U W t1 m hE hk gb g1 g2 g3
 have hc2:Jw5 r P=[t1]:=by rw [hc,if_neg (fun h=>h.elim g0 fun h=>h.elim g1 fun h=>h.elim g2 g3)]
 obtain ⟨k1,k2⟩:=Qn0 (near:=near) (far:=far) hc2
 by_cases gm:Kb5 P r near far t1
 ·rw [k1 gm];exact Ya1 r P near far e1 e2 h s q D U W t1 m hE hk gb g1 g2 g3 gm
 rw [k2 gm];exact Ya2 r P near far e1 e2 h s q D U W t1 m hE hk gb g1 g2 g3 gm
theorem Xj4 (r:RY)(P:PL)(near far:Int)(m:Ja1)(hk:P.kind=0):Ctr Tryz.prog 200 [.agg (ryC r),.agg (plC P),.one (.int .i64 near),.one (.int .i64 far)] m (.tup [(true,htC (Jv1 r P (Js1 r P near far)).1),(false,[.bool (Jv1 r P (Js1 r P near far)).2])]) m:=by
 obtain ⟨A,hA⟩:∃ A,Je2 r.d r.d=A:=⟨_,rfl⟩
 obtain ⟨B,hB⟩:∃ B,Je2 (Ja8 r.o (P.P 0)) r.d=B:=⟨_,rfl⟩
 obtain ⟨C,hC⟩:∃ C,Je1 (Je2 (Ja8 r.o (P.P 0)) (Ja8 r.o (P.P 0))) (Jd3 P.r P.r)=C:=⟨_,rfl⟩
 obtain ⟨D,hD⟩:∃ D,Je1 (Jd3 B B) (Jd3 A C)=D:=⟨_,rfl⟩
 obtain ⟨R,hR⟩:∃ R,Jn7 D=R:=⟨_,rfl⟩
 obtain ⟨t1,h1⟩:∃ t,Je4 (Je1 (-Ja3 B) R) A=t:=⟨_,rfl⟩
 obtain ⟨t2,h2⟩:∃ t,Je4 (Je1 R B) A=t:=⟨_,rfl⟩
 have hE:BalE r P A B C D R t1 t2:=⟨hA,hB,hC,hD,hR,h1,h2⟩
 have hc:Jw5 r P=if D<0\/A=0 then [] else [t1,t2]:=by
  unfold Jw5;rw [if_pos hk,hA,hB,hC,hD,hR,h1,h2]
 by_cases g:D<0
 ·rw [Jk6 (by rw [hc,if_pos (.inl g)])];exact Vb4 r P near far A B C D R t1 t2 m hE hk g
 by_cases ga:A=0
 ·rw [Jk6 (by rw [hc,if_pos (.inr ga)])];exact Vb3 r P near far A B C D R t1 t2 m hE hk g (by rw [ga];rfl)
 have gb:(A ==0)=false:=by simpa using ga
 have hc2:Jw5 r P=[t1,t2]:=by rw [hc,if_neg (fun h=>h.elim g ga)]
 obtain ⟨k1,k2,k3⟩:=Qm9 (near:=near) (far:=far) hc2
 by_cases g1:Kb5 P r near far t1
 ·rw [k1 g1];exact Vp4 r P near far A B C D R t1 t2 m hE hk g gb g1
 by_cases g2:Kb5 P r near far t2
 ·rw [k2 g1 g2];exact Vp3 r P near far A B C D R t1 t2 m hE hk g gb g1 g2
 rw [k3 g1 g2];exact Xj3 r P near far A B C D R t1 t2 m hE hk g gb g1 g2
theorem Xh8 (r:RY)(P:PL)(near far:Int)(m:Ja1)(hk:¬P.kind=0):Ctr Tryz.prog 201 [.agg (ryC r),.agg (plC P),.one (.int .i64 near),.one (.int .i64 far)] m (.tup [(true,htC (Jv1 r P (Js1 r P near far)).1),(false,[.bool (Jv1 r P (Js1 r P near far)).2])]) m:=by
 obtain ⟨e1,h1⟩:∃ e,e=Ja8 (P.P 1) (P.P 0):=⟨_,rfl⟩
 obtain ⟨e2,h2⟩:∃ e,e=Ja8 (P.P 2) (P.P 0):=⟨_,rfl⟩
 obtain ⟨h,hh⟩:∃ h,h=Jd4 r.d e2:=⟨_,rfl⟩
 obtain ⟨D,hD⟩:∃ D,Je2 e1 h=D:=⟨_,rfl⟩
 obtain ⟨s,hs⟩:∃ s,s=Ja8 r.o (P.P 0):=⟨_,rfl⟩
 obtain ⟨U,hU⟩:∃ U,Je4 (Je2 s h) D=U:=⟨_,rfl⟩
 obtain ⟨q,hq⟩:∃ q,q=Jd4 s e1:=⟨_,rfl⟩
 obtain ⟨W,hW⟩:∃ W,Je4 (Je2 r.d q) D=W:=⟨_,rfl⟩
 obtain ⟨t1,ht⟩:∃ t,Je4 (Je2 e2 q) D=t:=⟨_,rfl⟩
 have hE:FacE r P e1 e2 h s q D U W t1:=⟨h1,h2,hh,hD,hs,hU,hq,hW,ht⟩
 have hc:Jw5 r P=if D=0\/U<0\/W<0\/65536<Jc7 U W then [] else [t1]:=by
  unfold Jw5;rw [if_neg hk,<-h1,<-h2,<-hh,<-hs,<-hq,hD,hU,hW,ht]
 by_cases g0:D=0
 ·rw [Jk6 (by rw [hc,if_pos (.inl g0)])];exact Va9 r P near far e1 e2 h s q D U W t1 m hE hk (by rw [g0];rfl)
 have gb:(D ==0)=false:=by simpa using g0
 by_cases g1:U<0
 ·rw [Jk6 (by rw [hc,if_pos (.inr (.inl g1))])];exact Va8 r P near far e1 e2 h s q D U W t1 m hE hk gb g1
 by_cases g2:W<0
 ·rw [Jk6 (by rw [hc,if_pos (.inr (.inr (.inl g2)))])];exact Va7 r P near far e1 e2 h s q D U W t1 m hE hk gb g1 g2
 by_cases g3:65536<Jc7 U W
 ·rw [Jk6 (by rw [hc,if_pos (.inr (.inr (.inr g3)))])];exact Va6 r P near far e1 e2 h s q D U W t1 m hE hk gb g1 g2 g3
 have hc2:Jw5 r P=[t1]:=by rw [hc,if_neg (fun h=>h.elim g0 fun h=>h.elim g1 fun h=>h.elim g2 g3)]
 obtain ⟨k1,k2⟩:=Qn0 (near:=near) (far:=far) hc2
 by_cases gm:Kb5 P r near far t1
 ·rw [k1 gm];exact Xh6 r P near far e1 e2 h s q D U W t1 m hE hk gb g1 g2 g3 gm
 rw [k2 gm];exact Xh7 r P near far e1 e2 h s q D U W t1 m hE hk gb g1 g2 g3 gm
theorem Xt7 (r:RY)(M:MV)(near far:Int)(m:Ja1)(hk:M.A.kind=0):Ctr Tryz.prog 127 [.agg (ryC r),.agg (mvC M),.one (.int .i64 near),.one (.int .i64 far)] m (.tup [(true,htC (Jv1 r (atM M r.part) (Js1 r (atM M r.part) near far)).1),(false,[.bool (Jv1 r (atM M r.part) (Js1 r (atM M r.part) near far)).2])]) m:=by
 refine Ctr.en Tryz.func127 [.cell 8 165,.tmp 9] 32 fun hwf Q hQ=>?_
 obtain ⟨P,hP⟩:∃ P,P=atM M r.part:=⟨_,rfl⟩
 have hPk:P.kind=M.A.kind:=by rw [hP];rfl
 rw [<-hP] at hQ
 have gx:=Jg4 P
 have hkb:(P.kind ==0)=true:=by rw [hPk];exact beq_iff_eq.2 hk
 obtain ⟨o,ho⟩:∃ o,o=Js1 r P near far:=⟨_,rfl⟩
 have q_1:=at_c M r.part
 rw [<-hP] at q_1
 have U1:=ca4 gx @Kr0 @Jr0 (ca4 @Jh1 @Ji7 @Ja5 hkb)
 refine AW.w 5 U1 q_1 fun K J0=>?_
 refine AW.sr 1 fun K J1=>?_
 simp only [push_cast,simprocAttr,U1]
 refine CThen.by (Yd5 r P near far _ (by rw [hPk];exact hk)) ?_
 simp only [push_cast,simprocAttr,U1]
 exact AW.f Tru Tru
theorem Xt8 (r:RY)(M:MV)(near far:Int)(m:Ja1)(hk:¬M.A.kind=0):Ctr Tryz.prog 127 [.agg (ryC r),.agg (mvC M),.one (.int .i64 near),.one (.int .i64 far)] m (.tup [(true,htC (Jv1 r (atM M r.part) (Js1 r (atM M r.part) near far)).1),(false,[.bool (Jv1 r (atM M r.part) (Js1 r (atM M r.part) near far)).2])]) m:=by
 refine Ctr.en Tryz.func127 [.cell 8 165,.tmp 9] 32 fun hwf Q hQ=>?_
 obtain ⟨P,hP⟩:∃ P,P=atM M r.part:=⟨_,rfl⟩
 have hPk:P.kind=M.A.kind:=by rw [hP];rfl
 rw [<-hP] at hQ
 have gx:=Jg4 P
 have hkb:(P.kind ==0)=false:=by rw [hPk];simpa using hk
 obtain ⟨o,ho⟩:∃ o,o=Js1 r P near far:=⟨_,rfl⟩
 have q_2:=at_c M r.part
 rw [<-hP] at q_2
 have U2:=ca4 gx @Kr0 @Jr0 (ca4 @Jh1 @Ji7 @Ja5 hkb)
 refine AW.w 7 U2 q_2 ?_
 refine AW.sr 1 fun K J0=>?_
 simp only [push_cast,simprocAttr,U2]
 refine CThen.by (Ya3 r P near far _ (by rw [hPk];exact hk)) ?_
 simp only [push_cast,simprocAttr,U2]
 exact AW.f Tru Tru
theorem Kr5 (r:RY)(M:MV)(near far:Int)(m:Ja1):Ctr Tryz.prog 127 [.agg (ryC r),.agg (mvC M),.one (.int .i64 near),.one (.int .i64 far)] m (.tup [(true,htC (Jv1 r (atM M r.part) (Js1 r (atM M r.part) near far)).1),(false,[.bool (Jv1 r (atM M r.part) (Js1 r (atM M r.part) near far)).2])]) m:=by
 by_cases hk:M.A.kind=0
 ·exact Xt7 r M near far m hk
 exact Xt8 r M near far m hk
theorem Xe9 (r:RY)(M:MV)(near far:Int)(m:Ja1)(hk:M.A.kind=0):Ctr Tryz.prog 148 [.agg (ryC r),.agg (mvC M),.one (.int .i64 near),.one (.int .i64 far)] m (.tup [(true,htC (Jv1 r (atM M r.part) (Js1 r (atM M r.part) near far)).1),(false,[.bool (Jv1 r (atM M r.part) (Js1 r (atM M r.part) near far)).2])]) m:=by
 refine Ctr.en Tryz.func148 [.cell 8 183,.tmp 9] 32 fun hwf Q hQ=>?_
 obtain ⟨P,hP⟩:∃ P,P=atM M r.part:=⟨_,rfl⟩
 have hPk:P.kind=M.A.kind:=by rw [hP];rfl
 rw [<-hP] at hQ
 have gx:=Jg4 P
 have hkb:(P.kind ==0)=true:=by rw [hPk];exact beq_iff_eq.2 hk
 obtain ⟨o,ho⟩:∃ o,o=Js1 r P near far:=⟨_,rfl⟩
 have q_3:=Qk1 M r.part
 rw [<-hP] at q_3
 have U3:=ca4 gx @Kr0 @Jr0 (ca4 @Jh1 @Ji7 @Ja5 hkb)
 refine AW.w 5 U3 q_3 fun K J0=>?_
 refine AW.sr 1 fun K J1=>?_
 simp only [push_cast,simprocAttr,U3]
 refine CThen.by (Xj4 r P near far _ (by rw [hPk];exact hk)) ?_
 simp only [push_cast,simprocAttr,U3]
 exact AW.f Tru Tru
theorem Xf0 (r:RY)(M:MV)(near far:Int)(m:Ja1)(hk:¬M.A.kind=0):Ctr Tryz.prog 148 [.agg (ryC r),.agg (mvC M),.one (.int .i64 near),.one (.int .i64 far)] m (.tup [(true,htC (Jv1 r (atM M r.part) (Js1 r (atM M r.part) near far)).1),(false,[.bool (Jv1 r (atM M r.part) (Js1 r (atM M r.part) near far)).2])]) m:=by
 refine Ctr.en Tryz.func148 [.cell 8 183,.tmp 9] 32 fun hwf Q hQ=>?_
 obtain ⟨P,hP⟩:∃ P,P=atM M r.part:=⟨_,rfl⟩
 have hPk:P.kind=M.A.kind:=by rw [hP];rfl
 rw [<-hP] at hQ
 have gx:=Jg4 P
 have hkb:(P.kind ==0)=false:=by rw [hPk];simpa using hk
 obtain ⟨o,ho⟩:∃ o,o=Js1 r P near far:=⟨_,rfl⟩
 have q_4:=Qk1 M r.part
 rw [<-hP] at q_4
 have U4:=ca4 gx @Kr0 @Jr0 (ca4 @Jh1 @Ji7 @Ja5 hkb)
 refine AW.w 7 U4 q_4 ?_
 refine AW.sr 1 fun K J0=>?_
 simp only [push_cast,simprocAttr,U4]
 refine CThen.by (Xh8 r P near far _ (by rw [hPk];exact hk)) ?_
 simp only [push_cast,simprocAttr,U4]
 exact AW.f Tru Tru
theorem Ku6 (r:RY)(M:MV)(near far:Int)(m:Ja1):Ctr Tryz.prog 148 [.agg (ryC r),.agg (mvC M),.one (.int .i64 near),.one (.int .i64 far)] m (.tup [(true,htC (Jv1 r (atM M r.part) (Js1 r (atM M r.part) near far)).1),(false,[.bool (Jv1 r (atM M r.part) (Js1 r (atM M r.part) near far)).2])]) m:=by
 by_cases hk:M.A.kind=0
 ·exact Xe9 r M near far m hk
 exact Xf0 r M near far m hk
noncomputable def Hq (r:RY)(mv:Nat->MV)(near far:Int)(i:Nat):Option Int:=Js1 r (atM (mv i) r.part) near far
noncomputable def Jf4 (r:RY)(mv:Nat->MV):Option (Int × Nat)->HT
 | none=>ht0
 | some (t,i)=>⟨t,(i:Int),Je3 r t,Jj1 r (atM (mv i) r.part) t⟩
theorem Ke6 {H:Nat->Option Int}:∀ {n:Nat} {u:Int} {j:Nat},Jg8 H n=some (u,j)->j<n
 | 0,_,_,h=>by cases h
 | n+1,u,j,h=>by
  have h':Kx7 (Jg8 H n) n (H n)=some (u,j):=h
  unfold Kx7 at h'
  split at h'
  ·have:=Ke6 h';omega
  ·injection h' with h';injection h' with _ h';omega
  rename_i t u' j' hs
  split at h'
  ·injection h' with h';injection h' with _ h';omega
  have:=Ke6 (h'.symm ▸ hs:Jg8 H n=some (u,j));omega
theorem Qq7 (H:Nat->Option Int)(i:Nat):(H i=none/\Jg8 H (i+1)=Jg8 H i)\/(∃ t,H i=some t/\Jg8 H i=none/\Jg8 H (i+1)=some (t,i)) \/
  (∃ t u j,H i=some t/\Jg8 H i=some (u,j)/\t<u/\Jg8 H (i+1)=some (t,i))\/(∃ t u j,H i=some t/\Jg8 H i=some (u,j)/\¬t<u/\Jg8 H (i+1)=Jg8 H i):=by
 have h:Jg8 H (i+1)=Kx7 (Jg8 H i) i (H i):=rfl
 cases hi:H i with
 | none=>exact .inl ⟨rfl,by rw [h,hi];rfl⟩
 | some t =>
  cases hs:Jg8 H i with
  | none=>exact .inr (.inl ⟨t,rfl,rfl,by rw [h,hi,hs];rfl⟩)
  | some p =>
   obtain ⟨u,j⟩:=p
   have hj:=Ke6 hs
   by_cases g:t<u
   ·exact .inr (.inr (.inl ⟨t,u,j,rfl,rfl,g,by rw [h,hi,hs];exact if_pos (.inl g)⟩))
   exact .inr (.inr (.inr ⟨t,u,j,rfl,rfl,g,by rw [h,hi,hs];exact if_neg (fun q=>q.elim g fun q=>by omega)⟩))
theorem Kk6 (r:RY)(mv:Nat->MV)(rb rv n:Nat)(near far:Int)(m:Ja1)(hb:∃ k ez,m[rb]?=some ⟨k,78,rv,ez,Jb2 n (mF mv)⟩)(hn:n<=1000000):Ctr Tryz.prog 60 [.agg (ryC r),.one (.sl rb rv 0 n),.one (.int .i64 near),.one (.int .i64 far)] m (.tup [(true,htC (Jf4 r mv (Jg8 (Hq r mv near far) n))),(false,[.bool (Jg8 (Hq r mv near far) n).isSome])]) m:=by
 refine Ctr.en Tryz.func60 [.cell 8 183,.tmp 9] 48 fun hwf Q hQ=>?_
 obtain ⟨k0,e0,hb⟩:=hb
 have lb:=Ja7 hb
 have bl:(Jb2 n (mF mv)).length=n*24:=Ja6 (w:=24) (F:=mF mv) (fun _=>rfl) _
 have U1:=ca4 hb (Ja4 hb) bl (ca2 @Jh1 @Ja5)
 refine AW.c 3 U1 Tru ?_
 refine AW.q fun K J0=>?_
 refine AW.c 1 U1 Tru ?_
 apply AW.b
 refine AW.loopK [1,2,3,4,8,10] (fun i=>i<=n) (fun i=>[(11,.one (.bool (Jg8 (Hq r mv near far) i).isSome)),(12,.one (.int .i64 (i:Int)))]) (fun i=>[(m.length+2,⟨.fix,183,0,0,[.int .i64 (Jf4 r mv (Jg8 (Hq r mv near far) i)).t,.int .i64 (Jf4 r mv (Jg8 (Hq r mv near far) i)).i,.int .i64 ((Jf4 r mv (Jg8 (Hq r mv near far) i)).p 0),.int .i64 ((Jf4 r mv (Jg8 (Hq r mv near far) i)).p 1),.int .i64 ((Jf4 r mv (Jg8 (Hq r mv near far) i)).p 2),.int .i64 ((Jf4 r mv (Jg8 (Hq r mv near far) i)).n 0),.int .i64 ((Jf4 r mv (Jg8 (Hq r mv near far) i)).n 1),.int .i64 ((Jf4 r mv (Jg8 (Hq r mv near far) i)).n 2)]⟩)]) (fun i=>n - i) 0 (by omega) ?_ ?_ fun i hi2=>?_
 · first|rfl|(simp only [KS,simprocAttr,Jg8,Jf4,ht0,z0V,Int.natCast_zero,Option.isSome_none]<;>repeat' (first|rfl|apply And.intro))
 · first|rfl|(simp only [Ja2,push_cast,simprocAttr,Jg8,Jf4,ht0,z0V])<;>rfl
 try simp only [Ja9,Ja2,push_cast,simprocAttr,U1]
 refine AW.q fun K J1=>?_
 refine AW.c 1 U1 Tru ?_
 refine AW.cond rfl (fun h18=>?_) (fun h18=>?_)
 ·have hlt:i<n:=by have:=of_decide_eq_true h18;omega
  have c1:(0:Int)<=(i:Int):=by omega
  have c2:(i:Int)<(n:Int):=by omega
  have c1:(0:Int)<=(i:Int):=by omega
  have c2:(i:Int)<(n:Int):=by omega
  have c3:i*24+24<=n*24:=by omega
  have ga:=Jb7 (w:=24) (F:=mF mv) (fun _=>rfl) hlt
  have gx:=Xm1 mv i
  apply AW.z
  apply J1
  refine AW.q fun K J1=>?_
  apply AW.b
  refine AW.q fun K J2=>?_
  rcases Qq7 (Hq r mv near far) i with ⟨ho,hst⟩|⟨t,ho,hs0,hst⟩|⟨t,u,j,ho,hs0,hg,hst⟩|⟨t,u,j,ho,hs0,hg,hst⟩
  ·have hth:htC (Jv1 r (atM (mv i) r.part) none).1=[.int .i64 0,.int .i64 0,.int .i64 0,.int .i64 0,.int .i64 0,.int .i64 0,.int .i64 0,.int .i64 0]:=rfl
   have htb:(Jv1 r (atM (mv i) r.part) none).2=false:=rfl
   have ho9:Js1 r (atM (mv i) r.part) near far=none:=ho
   have hs0:=ho
   have q_1:=Ku6 r (mv i) near far
   rw [ho9] at q_1
   have U2:=ca4 U1 c1 c2 (ca4 c3 ga gx (ca3 hlt hth htb))
   refine AW.e [.rd 0,.val,.val,.val,.rd 0,.val,.val,.ext,.val,.val,.val,.fl,.wr,.val] fol U2 q_1 ?_
   apply J2
   refine AW.q fun K J2=>?_
   refine AW.c 1 U2 Tru ?_
   apply AW.y rfl
   apply AW.v
   apply Kx9
   apply Jq0
   apply J1
   refine AW.g U2 Tru ?_
   apply Jk2
   have hwi:IntKind.i64.wrap ((i:Int)+1)=(i:Int)+1:=wi (by omega)
   refine ⟨i+1,by omega,by omega,?_⟩
   try simp only [Ja9,Ja2,push_cast,simprocAttr,U2,hwi,hst,hs0]
   exact Weak.to (extra:=_) (by simp only [KS,simprocAttr,hwi,hst,hs0]) (by first|rfl|(simp only [List.append_assoc,List.cons_append,List.nil_append];rfl)) (by first|rfl|(simp [AV.below,CV.below];done)|(simp [AV.below,CV.below];omega)) (by
     first|exact hwf|refine MWf.app (hwf.grow (by simp)) ?_
     repeat (first|exact Jb3|(refine Ja0 ?_ ?_;· first|rfl|(simp [CV.below];done)|(simp [CV.below];omega))))
  ·have hth:htC (Jv1 r (atM (mv i) r.part) (some t)).1=[.int .i64 t,.int .i64 0,.int .i64 (Je3 r t 0),.int .i64 (Je3 r t 1),.int .i64 (Je3 r t 2),.int .i64 (Jj1 r (atM (mv i) r.part) t 0),.int .i64 (Jj1 r (atM (mv i) r.part) t 1),.int .i64 (Jj1 r (atM (mv i) r.part) t 2)]:=rfl
   have htb:(Jv1 r (atM (mv i) r.part) (some t)).2=true:=rfl
   have hbh:htC (Jf4 r mv (some (t,i)))=[.int .i64 t,.int .i64 (i:Int),.int .i64 (Je3 r t 0),.int .i64 (Je3 r t 1),.int .i64 (Je3 r t 2),.int .i64 (Jj1 r (atM (mv i) r.part) t 0),.int .i64 (Jj1 r (atM (mv i) r.part) t 1),.int .i64 (Jj1 r (atM (mv i) r.part) t 2)]:=rfl
   have ho9:Js1 r (atM (mv i) r.part) near far=some t:=ho
   have q_2:=Ku6 r (mv i) near far
   rw [ho9] at q_2
   have U3:=ca4 U1 c1 c2 (ca4 c3 ga gx (ca4 hlt hs0 hth (ca2 htb hbh)))
   refine AW.e [.rd 0,.val,.val,.val,.rd 0,.val,.val,.ext,.val,.val,.val,.fl,.wr,.val] fol U3 q_2 ?_
   apply J2
   refine AW.q fun K J2=>?_
   refine AW.c 1 U3 Tru ?_
   apply AW.x rfl
   apply AW.z
   apply J2
   refine AW.c 2 U3 Tru ?_
   apply AW.y rfl
   refine AW.c 1 U3 Tru ?_
   refine AW.g U3 Tru ?_
   apply Kr3
   apply J1
   refine AW.g U3 Tru ?_
   apply Jk2
   have hwi:IntKind.i64.wrap ((i:Int)+1)=(i:Int)+1:=wi (by omega)
   refine ⟨i+1,by omega,by omega,?_⟩
   try simp only [Ja9,Ja2,push_cast,simprocAttr,U3,hwi,hst,hs0]
   exact Weak.to (extra:=_) (by simp only [KS,simprocAttr,hwi,hst,hs0]) (by first|rfl|(simp only [List.append_assoc,List.cons_append,List.nil_append];rfl)) (by first|rfl|(simp [AV.below,CV.below];done)|(simp [AV.below,CV.below];omega)) (by
     first|exact hwf|refine MWf.app (hwf.grow (by simp)) ?_
     repeat (first|exact Jb3|(refine Ja0 ?_ ?_;· first|rfl|(simp [CV.below];done)|(simp [CV.below];omega))))
  ·have hth:htC (Jv1 r (atM (mv i) r.part) (some t)).1=[.int .i64 t,.int .i64 0,.int .i64 (Je3 r t 0),.int .i64 (Je3 r t 1),.int .i64 (Je3 r t 2),.int .i64 (Jj1 r (atM (mv i) r.part) t 0),.int .i64 (Jj1 r (atM (mv i) r.part) t 1),.int .i64 (Jj1 r (atM (mv i) r.part) t 2)]:=rfl
   have htb:(Jv1 r (atM (mv i) r.part) (some t)).2=true:=rfl
   have hbh:htC (Jf4 r mv (some (t,i)))=[.int .i64 t,.int .i64 (i:Int),.int .i64 (Je3 r t 0),.int .i64 (Je3 r t 1),.int .i64 (Je3 r t 2),.int .i64 (Jj1 r (atM (mv i) r.part) t 0),.int .i64 (Jj1 r (atM (mv i) r.part) t 1),.int .i64 (Jj1 r (atM (mv i) r.part) t 2)]:=rfl
   have ho9:Js1 r (atM (mv i) r.part) near far=some t:=ho
   have hbt:(Jf4 r mv (some (u,j))).t=u:=rfl
   have q_3:=Ku6 r (mv i) near far
   rw [ho9] at q_3
   have U4:=ca4 U1 c1 c2 (ca4 c3 ga gx (ca4 hlt hs0 hth (ca4 htb hbh hbt hg)))
   refine AW.e [.rd 0,.val,.val,.val,.rd 0,.val,.val,.ext,.val,.val,.val,.fl,.wr,.val] fol U4 q_3 ?_
   apply J2
   refine AW.q fun K J2=>?_
   refine AW.c 1 U4 Tru ?_
   apply AW.x rfl
   apply AW.z
   apply J2
   refine AW.c 2 U4 Tru ?_
   apply AW.y rfl
   refine AW.c 1 U4 Tru ?_
   refine AW.g U4 Tru ?_
   apply Kr3
   apply J1
   refine AW.g U4 Tru ?_
   apply Jk2
   have hwi:IntKind.i64.wrap ((i:Int)+1)=(i:Int)+1:=wi (by omega)
   refine ⟨i+1,by omega,by omega,?_⟩
   try simp only [Ja9,Ja2,push_cast,simprocAttr,U4,hwi,hst,hs0]
   exact Weak.to (extra:=_) (by simp only [KS,simprocAttr,hwi,hst,hs0]) (by first|rfl|(simp only [List.append_assoc,List.cons_append,List.nil_append];rfl)) (by first|rfl|(simp [AV.below,CV.below];done)|(simp [AV.below,CV.below];omega)) (by
     first|exact hwf|refine MWf.app (hwf.grow (by simp)) ?_
     repeat (first|exact Jb3|(refine Ja0 ?_ ?_;· first|rfl|(simp [CV.below];done)|(simp [CV.below];omega))))
  have hth:htC (Jv1 r (atM (mv i) r.part) (some t)).1=[.int .i64 t,.int .i64 0,.int .i64 (Je3 r t 0),.int .i64 (Je3 r t 1),.int .i64 (Je3 r t 2),.int .i64 (Jj1 r (atM (mv i) r.part) t 0),.int .i64 (Jj1 r (atM (mv i) r.part) t 1),.int .i64 (Jj1 r (atM (mv i) r.part) t 2)]:=rfl
  have htb:(Jv1 r (atM (mv i) r.part) (some t)).2=true:=rfl
  have hbh:htC (Jf4 r mv (some (t,i)))=[.int .i64 t,.int .i64 (i:Int),.int .i64 (Je3 r t 0),.int .i64 (Je3 r t 1),.int .i64 (Je3 r t 2),.int .i64 (Jj1 r (atM (mv i) r.part) t 0),.int .i64 (Jj1 r (atM (mv i) r.part) t 1),.int .i64 (Jj1 r (atM (mv i) r.part) t 2)]:=rfl
  have ho9:Js1 r (atM (mv i) r.part) near far=some t:=ho
  have hbt:(Jf4 r mv (some (u,j))).t=u:=rfl
  have q_4:=Ku6 r (mv i) near far
  rw [ho9] at q_4
  have U5:=ca4 U1 c1 c2 (ca4 c3 ga gx (ca4 hlt hs0 hth (ca4 htb hbh hbt hg)))
  refine AW.e [.rd 0,.val,.val,.val,.rd 0,.val,.val,.ext,.val,.val,.val,.fl,.wr,.val] fol U5 q_4 ?_
  apply J2
  refine AW.q fun K J2=>?_
  refine AW.c 1 U5 Tru ?_
  apply AW.x rfl
  apply AW.z
  apply J2
  refine AW.c 2 U5 Tru ?_
  apply AW.x rfl
  apply AW.z
  apply Kr3
  apply J1
  refine AW.g U5 Tru ?_
  apply Jk2
  have hwi:IntKind.i64.wrap ((i:Int)+1)=(i:Int)+1:=wi (by omega)
  refine ⟨i+1,by omega,by omega,?_⟩
  try simp only [Ja9,Ja2,push_cast,simprocAttr,U5,hwi,hst,hs0]
  exact Weak.to (extra:=_) (by simp only [KS,simprocAttr,hwi,hst,hs0]) (by first|rfl|(simp only [List.append_assoc,List.cons_append,List.nil_append];rfl)) (by first|rfl|(simp [AV.below,CV.below];done)|(simp [AV.below,CV.below];omega)) (by
    first|exact hwf|refine MWf.app (hwf.grow (by simp)) ?_
    repeat (first|exact Jb3|(refine Ja0 ?_ ?_;· first|rfl|(simp [CV.below];done)|(simp [CV.below];omega))))
 have hin:i=n:=by have:=of_decide_eq_false h18;omega
 rw [hin]
 apply AW.v
 apply Kx9
 apply Kx9
 apply Jq0
 apply J0
 refine AW.c 1 U1 Tru ?_
 exact AW.ret (hQ _ _ _ (RetP.z hwf Tru))
theorem Vd3 (w sb sv n:Nat)(cnt:Int)(l:List Nat)(m:Ja1)(hw:m[w]?=some ⟨.fix,251,0,0,[.sl sb sv 0 n,.int .i64 cnt]⟩)(hs:m[sb]?=some ⟨.grow,3,sv,1,iC l⟩)(hd:w≠sb)(h0:n=0):Ctr Tryz.prog 122 [.one (.ptr w 0 0)] m (.tup [(false,[.int .i64 0]),(false,[.bool false])]) m:=by
 subst h0
 have lw:=Ja7 hw
 have U1:=ca2 hw (Ja4 hw)
 exact Ctr.f Tryz.func122 [.tmp 2,.tmp 3] 39 U1 Tru
theorem Kv8 (w sb sv:Nat)(cnt:Int)(l:List Nat)(x:Nat)(m:Ja1)(hw:m[w]?=some ⟨.fix,251,0,0,[.sl sb sv 0 (l.length+1),.int .i64 cnt]⟩)(hs:m[sb]?=some ⟨.grow,3,sv,1,iC (l++[x])⟩)(hd:w≠sb)(hc:0<=cnt/\cnt<=1000000000)(hl:l.length<=1000000):Ctr Tryz.prog 122 [.one (.ptr w 0 0)] m (.tup [(false,[.int .i64 (x:Int)]),(false,[.bool true])]) ((m.set w ⟨.fix,251,0,0,[.sl sb sv 0 l.length,.int .i64 (cnt+1)]⟩).set sb ⟨.grow,3,sv,1,iC l⟩):=by
 refine Ctr.en Tryz.func122 [.tmp 2,.tmp 3] 39 fun hwf Q hQ=>?_
 have lw:=Ja7 hw
 have ls:=Ja7 hs
 have hds:=hd.symm
 have e1:(((l.length+1:Nat):Int) ==0)=false:=by simp;omega
 have e1b:(((l.length:Int)+1) ==0)=false:=by simp;omega
 have e2:IntKind.i64.wrap ((l.length:Int)+1 - 1)=(l.length:Int):=by rw [show (l.length:Int)+1 - 1=(l.length:Int) by omega];exact wi (by omega)
 have e3:IntKind.i64.wrap (cnt+1)=cnt+1:=wi (by omega)
 have e4:(0:Int)<=(l.length:Int):=by omega
 have e5:(l.length:Int)<(l.length:Int)+1:=by omega
 have e6:(l.length:Int)<=(l.length:Int)+1:=by omega
 have e7:(iC (l++[x]))[l.length]?=some (.int .i64 (x:Int)):=by rw [<-Jy1,List.getElem?_append_right (by rw [Jg5];omega),Jg5,Nat.sub_self];rfl
 have e8:(iC (l++[x])).length=l.length+1:=by rw [Jg5];simp
 have e9:l.length<=l.length+1:=by omega
 have e10:l.length<l.length+1:=by omega
 have ht:(iC (l++[x])).take l.length=iC l:=by rw [<-Jy1,List.take_append_of_le_length (by rw [Jg5];omega),List.take_of_length_le (by rw [Jg5];omega)]
 have k1:∀ B,(m.set w B)[sb]?=m[sb]?:=fun B=>List.getElem?_set_ne hd
 have k2:∀ B,(m.set w B)[w]?=some B:=fun B=>List.getElem?_set_self lw
 have U2:=ca4 hw (Ja4 hw) hs (ca4 (Ja4 hs) e1 e1b (ca4 e2 e3 e4 (ca4 e5 e6 e7 (ca4 e8 e9 e10 (ca4 k1 k2 hd hds)))))
 refine AW.w 10 U2 Tru ?_
 refine AW.cut sb l.length (b:=⟨.grow,3,sv,1,iC (l++[x])⟩) (by simp only [push_cast,simprocAttr,k1,hs,List.set_set]) rfl ?_
 simp only [push_cast,simprocAttr,ht,List.set_set]
 refine AW.w 2 U2 Tru ?_
 refine hQ _ _ _ ?_
 refine RetP.dropM0 (by simp) (by first|exact Or.inr rfl|exact Or.inl rfl) ?_ ?_ (Js6 (Js6 hwf (by simp [CV.below];omega) rfl) (Jg6 _ _) rfl)
 · (simp only [Je0,Jb1,Jb9,AV.tv,push_cast,simprocAttr])<;>rfl
 rfl
theorem Xf6 (a:Int):0<=Jn7 a:=by unfold Jn7;split<;>omega
theorem Vd5 (a:Int):0<=Jd3 a a:=by
 unfold Jd3
 have h:0<=Ja3 a*Ja3 a:=by
  rcases Int.le_total 0 (Ja3 a) with h|h
  ·exact Int.mul_nonneg h h
  exact Int.mul_nonneg_of_nonpos_of_nonpos h h
 have:=Jd0 (show (0:Int)<=Ja3 a*Ja3 a / 65536 by omega)
 have h0:Ja3 0=0:=by decide
 omega
theorem Vi5 {a b:Int}(ha:0<=a)(hb:0<=b):0<=Jc7 a b:=by
 unfold Jc7
 have h0:Ja3 0=0:=by decide
 have h1:=Jd0 ha
 have h2:=Jd0 hb
 have:=Jd0 (show (0:Int)<=Ja3 a+Ja3 b by omega)
 omega
theorem Ya7 (d:V):0<=Je2 d d:=by
 unfold Je2 Qo7
 exact Vi5 (Vi5 (Vi5 (Int.le_refl _) (Vd5 _)) (Vd5 _)) (Vd5 _)
theorem Vv5 (a b:V):Ja3 (Je2 a b)=Je2 a b:=by
 unfold Je2 Qo7 Jc7
 exact Jb4 (Jc6 _)
theorem Qt1 {a b d:Int}(hd:0<d)(h:a<=b):Jj3 a d<=Jj3 b d:=by
 unfold Jj3
 first
 | exact Int.ediv_le_ediv hd h
 | (split<;>first|exact Int.ediv_le_ediv hd h|omega)
theorem Vv6 {x y d:Int}(hd:0<Ja3 d)(h:Ja3 x<=Ja3 y):Je4 x d<=Je4 y d:=by
 unfold Je4
 rw [if_neg (by omega),if_neg (by omega)]
 exact Jd0 (Qt1 hd (by omega))
theorem Qh3 (r:RY)(P:PL):(Jw5 r P).Pairwise (·<=·):=by
 unfold Jw5
 split
 ·split
  ·exact List.Pairwise.nil
  rename_i hne
  have hA:¬Je2 r.d r.d=0:=fun h=>hne (.inr h)
  have hd:0<Ja3 (Je2 r.d r.d):=by rw [Vv5];have:=Ya7 r.d;omega
  generalize Je2 (Ja8 r.o (P.P 0)) r.d=B
  generalize hR:Jn7 _=R
  have hr:0<=R:=by rw [<-hR];exact Xf6 _
  refine List.Pairwise.cons (fun t ht=>?_) (List.Pairwise.cons (fun t ht=>by cases ht) List.Pairwise.nil)
  simp only [List.mem_cons,List.not_mem_nil,or_false] at ht
  subst ht
  refine Vv6 hd ?_
  have hb:=Jc6 B
  have h0:Ja3 (-Ja3 B)=-Ja3 B:=Jb4 (by omega)
  have h1:=Jd0 hr
  have h2:Ja3 0=0:=by decide
  refine Jd0 ?_
  unfold Je1
  rw [h0]
  exact Jd0 (by omega)
 split
 ·exact List.Pairwise.nil
 exact List.Pairwise.cons (fun t ht=>by cases ht) List.Pairwise.nil
theorem Vj3 (r:RY)(mv:Nat->MV)(near far:Int)(i:Nat)(t:Int)(h:Hq r mv near far i=some t):t<=far:=(Xa3 h).2.1
open Classical in
theorem Yd8 (r:RY)(mv:Nat->MV)(near far:Int)(i:Nat)(t:Int)(h:Hq r mv near far i=some t):Kb5 (atM (mv i) r.part) r near far t:=by
 obtain ⟨h1,h2,h3,_⟩:=Xa3 h
 exact ⟨h1,h2,of_decide_eq_true h3⟩
theorem Xr2 (r:RY)(mv:Nat->MV){near far far':Int}(h:far'<=far)(i:Nat):Hq r mv near far' i=(Hq r mv near far i).filter fun t=>decide (t<=far'):=Qm8 h (Qh3 r _)
theorem Vd0 {r:RY}{mv:Nat->MV}{near far far':Int}{p:PR}{i:Nat}{t:Int}(hc:∀ u q,Ka9 (atP (prM mv i) u) q->Ka9 (atP p u) q)(hm:¬Ju6 (atP p r.part) (Ka0 r near far'))(h:Hq r mv near far i=some t):far'<t:=by
 refine Int.not_le.1 fun hle=>hm ?_
 obtain ⟨h1,h2,h3⟩:=Yd8 r mv near far i t h
 exact Vq8 (hc _ _ (Xk5 (ry_b r t) h3)) (Vm3 r (Int.le_of_lt h1) hle)
def Jy9 (l:List ND)(i:Nat):ND:=(l[i]?).getD ⟨⟨⟨fun _=>0,fun _=>0⟩,⟨fun _=>0,fun _=>0⟩⟩,-1,-1,0,0⟩
def Xr6 (prs:Nat->PR)(l:List ND)(o:List Nat)(at' x:Nat):Prop:=∀ i u q,o[x]?=some i->Ka9 (atP (prs i) u) q->Ka9 (atP (Jy9 l at').p u) q
theorem Vd1 {l:List ND}{C:Nat->Nat->Prop}{t:TR}{a b:Nat}(h:Fit (Jy9 l) C t a b):t.root<l.length:=by
 refine Classical.byContradiction fun hn=>?_
 have e:Jy9 l t.root=⟨⟨⟨fun _=>0,fun _=>0⟩,⟨fun _=>0,fun _=>0⟩⟩,-1,-1,0,0⟩:=by unfold Jy9;rw [List.getElem?_eq_none (by omega)];rfl
 cases h with
 | leaf at' _ _ h1 _ _ hc _=>have e:Jy9 l at'=_:=e;rw [e] at hc;have hc:(0:Int)=_:=hc;omega
 | node at' l' r' _ _ _ hc hl hr _ _ _=>have e:Jy9 l at'=_:=e;rw [e] at hl;have hl:(-1:Int)=_:=hl;omega
theorem Vq2 {l:List ND}{i:Nat}(h:i<l.length):Jy9 l i=l.getD i nd0:=by unfold Jy9;rw [List.getD_eq_getElem?_getD,List.getElem?_eq_getElem h];rfl
theorem Vk8 (prs:Nat->PR){n:Nat}(h0:0<n):∃ t,Fit (Jy9 (Ji4 prs n).2) (Xr6 prs (Ji4 prs n).2 (Ji4 prs n).1) t 0 n/\t.root=0/\(Ji4 prs n).1.Perm (List.range n)/\(Ji4 prs n).1.length=n/\0<(Ji4 prs n).2.length/\(Ji4 prs n).2.length<=2*n:=by
 have k:=Ka6 (prs:=prs) (mid:=Qv1 prs) n 0 n (List.range n,[]) (by omega) h0 (by simp)
 have c:=Ju4 (prs:=prs) (mid:=Qv1 prs) n 0 n (List.range n,[]) (by omega) h0 (by simp)
 have e:Jt1 prs (Qv1 prs) n 0 n (List.range n,[])=Ji4 prs n:=rfl
 rw [e] at k c
 have hl:(Ji4 prs n).1.length=n:=k.len.trans (by simp)
 obtain ⟨t,h1,h2⟩:=k.fit (Ji4 prs n).1 (Jy9 (Ji4 prs n).2) (List.Perm.refl _) (fun _ _ _=>rfl) (fun i nd _ hi=>by unfold Jy9;rw [hi];rfl)
 refine ⟨t,h1,h2,?_,hl,k.lt,by have:(Ji4 prs n).2.length+1<=0+2*(n - 0):=c;omega⟩
 have:=k.same.1
 have e1:Jk3 (List.range n) 0 n=List.range n:=by unfold Jk3;rw [List.drop_zero,Nat.sub_zero];exact List.take_of_length_le (by simp)
 have e2:Jk3 (Ji4 prs n).1 0 n=(Ji4 prs n).1:=by unfold Jk3;rw [List.drop_zero,Nat.sub_zero];exact List.take_of_length_le (by omega)
 have this:(Jk3 (List.range n) 0 n).Perm (Jk3 (Ji4 prs n).1 0 n):=this
 rw [e1,e2] at this
 exact this.symm
structure VW where
 (e f r u:V) (wd w h:Int)
def vwC (v:VW):List CV:=c3C v.e++(c3C v.f++(c3C v.r++(c3C v.u++[.int .i64 v.wd,.int .i64 v.w,.int .i64 v.h])))
def orV (a b:V):V:=if z3 a=true then b else a
noncomputable def Xs0 (s:SC)(x:Int):V:=orV (Jb5 (Ja8 (Jj5 s s.lk x) (Jj5 s s.ey x))) (v3V 0 0 65536)
noncomputable def rgtV (f:V):V:=orV (Jb5 (Jd4 (v3V 0 65536 0) f)) (v3V 65536 0 0)
noncomputable def Jg7 (s:SC)(x:Int):VW:=⟨Jj5 s s.ey x,Xs0 s x,rgtV (Xs0 s x),Jd4 (Xs0 s x) (rgtV (Xs0 s x)),s.wd,s.w,s.h⟩
theorem or_t (a b:V)(m:Ja1)(g:(a 0 ==0&&(a 1 ==0&&a 2 ==0))=true):Ctr Tryz.prog 105 [.agg (c3C a),.agg (c3C b)] m (.agg (c3C (orV a b))) m:=by
 refine Ctr.en Tryz.func105 [.cell 4 59] 10 fun hwf Q hQ=>?_
 have hv:orV a b=b:=if_pos g
 rw [hv] at hQ
 have U1:=ca2 @Ja5 g
 exact AW.f U1 Tru
theorem or_f (a b:V)(m:Ja1)(g:(a 0 ==0&&(a 1 ==0&&a 2 ==0))=false):Ctr Tryz.prog 105 [.agg (c3C a),.agg (c3C b)] m (.agg (c3C (orV a b))) m:=by
 refine Ctr.en Tryz.func105 [.cell 4 59] 10 fun hwf Q hQ=>?_
 have hv:orV a b=a:=if_neg (by show ¬(a 0 ==0&&(a 1 ==0&&a 2 ==0))=true;rw [g];decide)
 rw [hv] at hQ
 have U2:=ca2 @Ja5 g
 exact AW.f U2 Tru
theorem or_c (a b:V)(m:Ja1):Ctr Tryz.prog 105 [.agg (c3C a),.agg (c3C b)] m (.agg (c3C (orV a b))) m:=by
 cases g:(a 0 ==0&&(a 1 ==0&&a 2 ==0))
 ·exact or_f a b m g
 exact or_t a b m g
theorem Ky3 (s:SC)(R:RWs)(x:Int)(m:Ja1)(hR:ScR 140 119 223 148 155 m s R)(hT:∀ i,i<s.nt->TrS s i):Ctr Tryz.prog 39 [.agg (scC s R),.one (.int .i64 x)] m (.agg (vwC (Jg7 s x))) m:=by
 refine Ctr.en Tryz.func39 [.cell 4 90] 44 fun hwf Q hQ=>?_
 obtain ⟨F,hF⟩:∃ F,F=Xs0 s x:=⟨_,rfl⟩
 obtain ⟨G,hG⟩:∃ G,G=rgtV F:=⟨_,rfl⟩
 have hv:vwC (Jg7 s x)=c3C (Jj5 s s.ey x)++(c3C F++(c3C G++(c3C (Jd4 F G)++[.int .i64 s.wd,.int .i64 s.w,.int .i64 s.h]))):=by rw [hG,hF];rfl
 rw [hv] at hQ
 have U3:=ca4 @Jg0 @Jf6 @Jf9 @Ja5
 refine AW.wd [[.rd 0,.val,.ext,.val,.val,.rd 0,.val,.val,.rd 0,.val,.val,.rd 0,.val,.fl,.wr]] 2 U3 (eye_c s R x _ (hR.app _) hT) ?_
 have q_1:=or_c (Jb5 (Ja8 (Jj5 s s.lk x) (Jj5 s s.ey x))) (v3V 0 0 65536)
 rw [show orV (Jb5 (Ja8 (Jj5 s s.lk x) (Jj5 s s.ey x))) (v3V 0 0 65536)=F from hF.symm] at q_1
 refine AW.d [.rd 0,.val,.ext,.val,.rd 0,.ext,.ext,.ext,.ext,.val,.wr] fol U3 (ca4 (Xy3 s R x _ (hR.app _) hT) (Jh4 (Jj5 s s.lk x) (Jj5 s s.ey x)) (Jr4 (Ja8 (Jj5 s s.lk x) (Jj5 s s.ey x))) (ca2 Qb2 q_1)) ?_
 have q_2:=or_c (Jb5 (Jd4 (v3V 0 65536 0) F)) (v3V 65536 0 0)
 rw [show orV (Jb5 (Jd4 (v3V 0 65536 0) F)) (v3V 65536 0 0)=G from hG.symm] at q_2
 exact AW.fd [[.ext,.val,.rd 0,.ext,.ext,.ext,.ext,.val,.wr]] U3 (ca4 Qb2 (Jn3 (v3V 0 65536 0) F) (Jr4 (Jd4 (v3V 0 65536 0) F)) (ca2 q_2 (Jn3 F G)))
theorem Ku1 (s:SC)(R:RWs)(x:Int)(m:Ja1)(hR:ScR 138 143 285 146 150 m s R)(hT:∀ i,i<s.nt->TrS s i)(hE:s.ey<(s.nt:Int))(hL:s.lk<(s.nt:Int)):Ctr Tryz.prog 25 [.agg (scC s R),.one (.int .i64 x)] m (.agg (vwC (Jg7 s x))) m:=by
 refine Ctr.en Tryz.func25 [.cell 4 87] 55 fun hwf Q hQ=>?_
 obtain ⟨F,hF⟩:∃ F,F=Xs0 s x:=⟨_,rfl⟩
 obtain ⟨G,hG⟩:∃ G,G=rgtV F:=⟨_,rfl⟩
 have hv:vwC (Jg7 s x)=c3C (Jj5 s s.ey x)++(c3C F++(c3C G++(c3C (Jd4 F G)++[.int .i64 s.wd,.int .i64 s.w,.int .i64 s.h]))):=by rw [hG,hF];rfl
 rw [hv] at hQ
 have U4:=ca4 @Jg0 @Jf6 @Jf9 @Ja5
 refine AW.wd [[.rd 0,.val,.rd 0,.val,.ext,.val,.rd 0,.val,.val,.rd 0,.val,.val,.rd 0,.val,.fl,.wr],[.rd 0,.val,.rd 0,.val,.ext,.val,.rd 0,.ext,.ext,.val,.wr]] 5 U4 (ca4 (Qj5 s R s.ey x _ (hR.app _) hT hE) (Qj5 s R s.lk x _ (hR.app _) hT hL) (Je8 (Jj5 s s.lk x) (Jj5 s s.ey x)) (Jm7 (Ja8 (Jj5 s s.lk x) (Jj5 s s.ey x)))) fun K J0=>?_
 refine AW.condJ rfl [4,5] [] [(m.length+2,⟨.fix,87,0,0,[.int .i64 (Jj5 s s.ey x 0),.int .i64 (Jj5 s s.ey x 1),.int .i64 (Jj5 s s.ey x 2),.int .i64 (F 0),.int .i64 (F 1),.int .i64 (F 2),.int .i64 0,.int .i64 0,.int .i64 0,.int .i64 0,.int .i64 0,.int .i64 0,.int .i64 s.wd,.int .i64 s.w,.int .i64 s.h]⟩)] (fun h33=>?_) (fun h33=>?_) ?_
 ·have hXe:F=v3V 0 0 65536:=by rw [hF];exact if_pos h33
  have f0:F 0=0:=by rw [hXe];rfl
  have f1:F 1=0:=by rw [hXe];rfl
  have f2:F 2=65536:=by rw [hXe];rfl
  refine AW.w 1 U4 Tru ?_
  try simp only [Ja9,Ja2,push_cast,simprocAttr,U4,f0,f1,f2]
  exact Weak.same (by simp only [KS,simprocAttr,f0,f1,f2]) (by first|rfl|simp only [KS,simprocAttr,f0,f1,f2])
 ·have hXe:F=(Jb5 (Ja8 (Jj5 s s.lk x) (Jj5 s s.ey x))):=by rw [hF];exact if_neg (fun q=>by rw [show z3 (Jb5 (Ja8 (Jj5 s s.lk x) (Jj5 s s.ey x)))=false from h33] at q;cases q)
  have f0:F 0=(Jb5 (Ja8 (Jj5 s s.lk x) (Jj5 s s.ey x))) 0:=by rw [hXe]
  have f1:F 1=(Jb5 (Ja8 (Jj5 s s.lk x) (Jj5 s s.ey x))) 1:=by rw [hXe]
  have f2:F 2=(Jb5 (Ja8 (Jj5 s s.lk x) (Jj5 s s.ey x))) 2:=by rw [hXe]
  refine AW.w 1 Tru Tru ?_
  try simp only [Ja9,Ja2,push_cast,simprocAttr,U4,f0,f1,f2]
  exact Weak.same (by simp only [KS,simprocAttr,f0,f1,f2]) (by first|rfl|simp only [KS,simprocAttr,f0,f1,f2])
 try simp only [Ja9,Ja2,push_cast,simprocAttr,U4]
 refine AW.w 4 U4 (ca2 (Ji3 (v3V 0 65536 0) F) (Jm7 (Jd4 (v3V 0 65536 0) F))) fun K J0=>?_
 refine AW.condJ rfl [4,5] [] [(m.length+2,⟨.fix,87,0,0,[.int .i64 (Jj5 s s.ey x 0),.int .i64 (Jj5 s s.ey x 1),.int .i64 (Jj5 s s.ey x 2),.int .i64 (F 0),.int .i64 (F 1),.int .i64 (F 2),.int .i64 (G 0),.int .i64 (G 1),.int .i64 (G 2),.int .i64 0,.int .i64 0,.int .i64 0,.int .i64 s.wd,.int .i64 s.w,.int .i64 s.h]⟩)] (fun h45=>?_) (fun h45=>?_) ?_
 ·have hXe:G=v3V 65536 0 0:=by rw [hG];exact if_pos h45
  have f0:G 0=65536:=by rw [hXe];rfl
  have f1:G 1=0:=by rw [hXe];rfl
  have f2:G 2=0:=by rw [hXe];rfl
  refine AW.w 1 U4 Tru ?_
  try simp only [Ja9,Ja2,push_cast,simprocAttr,U4,f0,f1,f2]
  exact Weak.same (by simp only [KS,simprocAttr,f0,f1,f2]) (by first|rfl|simp only [KS,simprocAttr,f0,f1,f2])
 ·have hXe:G=(Jb5 (Jd4 (v3V 0 65536 0) F)):=by rw [hG];exact if_neg (fun q=>by rw [show z3 (Jb5 (Jd4 (v3V 0 65536 0) F))=false from h45] at q;cases q)
  have f0:G 0=(Jb5 (Jd4 (v3V 0 65536 0) F)) 0:=by rw [hXe]
  have f1:G 1=(Jb5 (Jd4 (v3V 0 65536 0) F)) 1:=by rw [hXe]
  have f2:G 2=(Jb5 (Jd4 (v3V 0 65536 0) F)) 2:=by rw [hXe]
  refine AW.w 1 Tru Tru ?_
  try simp only [Ja9,Ja2,push_cast,simprocAttr,U4,f0,f1,f2]
  exact Weak.same (by simp only [KS,simprocAttr,f0,f1,f2]) (by first|rfl|simp only [KS,simprocAttr,f0,f1,f2])
 try simp only [Ja9,Ja2,push_cast,simprocAttr,U4]
 exact AW.f U4 (Ji3 F G)
def Xr9 (a b:VW)(t:Int):VW:=⟨Kh4 a.e b.e t,Kh4 a.f b.f t,Kh4 a.r b.r t,Kh4 a.u b.u t,a.wd,a.w,a.h⟩
theorem Jn5 (v:VW):vwC v=(c3C v.e++(c3C v.f++(c3C v.r++(c3C v.u++[.int .i64 v.wd,.int .i64 v.w,.int .i64 v.h])))):=rfl
theorem Xx9 (a b:VW)(t:Int)(m:Ja1):Ctr Tryz.prog 48 [.agg (vwC a),.agg (vwC b),.one (.int .i64 t)] m (.agg (vwC (Xr9 a b t))) m:=by
 have U1:=ca2 @Jn5 @Ja5
 exact Ctr.fd Tryz.func48 [.cell 6 90] 36 [[.val,.rd 0,.val,.rd 0,.val,.ext,.val,.rd 0,.val,.rd 0,.val,.ext,.val,.rd 0,.val,.rd 0,.val,.ext,.val,.wr,.val,.wr,.val,.wr]] U1 (ca4 (Kh7 a.e b.e t) (Kh7 a.f b.f t) (Kh7 a.r b.r t) (Kh7 a.u b.u t))
theorem Xf9 (a b:VW)(t:Int)(m:Ja1):Ctr Tryz.prog 58 [.agg (vwC a),.agg (vwC b),.one (.int .i64 t)] m (.agg (vwC (Xr9 a b t))) m:=by
 have U2:=ca2 @Jn5 @Ja5
 exact Ctr.f Tryz.func58 [.cell 6 87] 38 U2 (ca4 (Kc5 a.e b.e t) (Kc5 a.f b.f t) (Kc5 a.r b.r t) (Kc5 a.u b.u t))
def rayX (v:VW)(x dx:Int):Int:=Je4 (Je1 (2*Jc7 (ofI x) (Jb6 dx)) (ofI v.w)) (ofI v.h)
def rayY (v:VW)(y dy:Int):Int:=Je4 (Je1 (ofI v.h) (2*Jc7 (ofI y) (Jb6 dy))) (ofI v.h)
def rayD (v:VW)(px py:Int):V:=Jd7 (Jd7 (Jd7 z0V v.f) (Jd8 v.r (Jd3 px v.wd))) (Jd8 v.u (Jd3 py v.wd))
noncomputable def Vp5 (v:VW)(x y dx dy part:Int):RY:=⟨v.e,orV (Jb5 (rayD v (rayX v x dx) (rayY v y dy))) v.f,part⟩
theorem Xs4 (v:VW)(x y dx dy part:Int)(m:Ja1):Ctr Tryz.prog 49 [.agg (vwC v),.one (.int .i64 x),.one (.int .i64 y),.one (.int .i64 dx),.one (.int .i64 dy),.one (.int .i64 part)] m (.agg (ryC (Vp5 v x y dx dy part))) m:=by
 refine Ctr.en Tryz.func49 [.cell 12 161] 69 fun hwf Q hQ=>?_
 obtain ⟨px,hx⟩:∃ p,rayX v x dx=p:=⟨_,rfl⟩
 obtain ⟨py,hy⟩:∃ p,rayY v y dy=p:=⟨_,rfl⟩
 have hx1:Je4 (Je1 (2*Jc7 (ofI x) (Jb6 dx)) (ofI v.w)) (ofI v.h)=px:=hx
 have hy1:Je4 (Je1 (ofI v.h) (2*Jc7 (ofI y) (Jb6 dy))) (ofI v.h)=py:=hy
 have b1:=Jc6 (Ja3 (ofI x)+Ja3 (Jb6 dx))
 have b2:=Jc6 (Ja3 (ofI y)+Ja3 (Jb6 dy))
 have w1:IntKind.i64.wrap (2*Jc7 (ofI x) (Jb6 dx))=2*Jc7 (ofI x) (Jb6 dx):=wi (by unfold Jc7;omega)
 have w2:IntKind.i64.wrap (2*Jc7 (ofI y) (Jb6 dy))=2*Jc7 (ofI y) (Jb6 dy):=wi (by unfold Jc7;omega)
 obtain ⟨D,hD⟩:∃ D,D=rayD v px py:=⟨_,rfl⟩
 obtain ⟨F,hF⟩:∃ F,F=orV (Jb5 D) v.f:=⟨_,rfl⟩
 have hv:ryC (Vp5 v x y dx dy part)=c3C v.e++(c3C F++[.int .i64 part]):=by unfold Vp5;rw [hx,hy,<-hD,<-hF];rfl
 rw [hv] at hQ
 have U3:=ca4 @Jn5 @Ja5 w1 (ca3 w2 hx1 hy1)
 refine AW.wd [[.val,.ext,.val,.ext,.ext,.val,.val,.rd 0,.ext,.ext,.val,.ext,.val]] 4 U3 (ca4 Vq1 Kj5 Jw7 (ca2 Jx0 Jr3)) ?_
 refine AW.q fun K J0=>?_
 refine AW.draw [.val,.rd 0,.val,.rd 0,.val,.val,.rd 0,.ext,.ext,.val,.rd 0,.val,.val,.rd 0,.ext,.ext,.ext,.ext,.fl,.wr] fol (by decide) (by kernel_rfl) ?_
 simp only [push_cast,simprocAttr,U3]
 refine DCall.z (Jk7 _ _ _) ?_
 simp only [push_cast,simprocAttr,U3]
 refine DCall.z (Jv3 v.r (Jd3 px v.wd) _) ?_
 simp only [push_cast,simprocAttr,U3]
 refine DCall.z (Jk7 _ _ _) ?_
 simp only [push_cast,simprocAttr,U3]
 refine DCall.z (Jv3 v.u (Jd3 py v.wd) _) ?_
 simp only [push_cast,simprocAttr,U3]
 refine DExt.by (by first|rfl|exact (List.append_nil _).symm|(simp only [List.append_assoc,List.cons_append,List.nil_append];rfl)) ?_
 simp only [push_cast,simprocAttr,U3]
 refine DCall.z ((by have h9:=fun M r9 q=>Qe3 r9 0 (v.f 0) (v.f 1) (v.f 2) ((Jd8 v.r (Jd3 px v.wd)) 0) ((Jd8 v.r (Jd3 px v.wd)) 1) ((Jd8 v.r (Jd3 px v.wd)) 2) ((Jd8 v.u (Jd3 py v.wd)) 0) ((Jd8 v.u (Jd3 py v.wd)) 1) ((Jd8 v.u (Jd3 py v.wd)) 2) M q;have e9:([.int .i64 (Jc7 (Jc7 (Jc7 0 (v.f 0)) ((Jd8 v.r (Jd3 px v.wd)) 0)) ((Jd8 v.u (Jd3 py v.wd)) 0)),.int .i64 (Jc7 (Jc7 (Jc7 0 (v.f 1)) ((Jd8 v.r (Jd3 px v.wd)) 1)) ((Jd8 v.u (Jd3 py v.wd)) 1)),.int .i64 (Jc7 (Jc7 (Jc7 0 (v.f 2)) ((Jd8 v.r (Jd3 px v.wd)) 2)) ((Jd8 v.u (Jd3 py v.wd)) 2))]:List CV)=c3C D:=(by rw [hD];rfl);rw [e9] at h9;exact h9 _ _ ⟨.grow,3,by simp only [push_cast,simprocAttr]⟩)) ?_
 simp only [push_cast,simprocAttr,U3]
 apply J0
 have q_1:=or_c (Jb5 D) v.f
 rw [<-hF] at q_1
 exact AW.fd [[.val,.rd 0,.rd 0,.ext,.val,.rd 0,.ext,.val,.val,.wr]] U3 (ca2 (Jr4 D) q_1)
theorem Qw7 (a:Int)(m:Ja1)(hw:IntKind.i64.wrap (2*a)=2*a):Ctr Tryz.prog 142 [.one (.int .i64 a)] m (.one (.int .i64 (2*a))) m:=by
 exact Ctr.f Tryz.func142 [.tmp 2] 5 hw Tru
theorem Xd3 (v:VW)(x y dx dy part:Int)(m:Ja1):Ctr Tryz.prog 59 [.agg (vwC v),.one (.int .i64 x),.one (.int .i64 y),.one (.int .i64 dx),.one (.int .i64 dy),.one (.int .i64 part)] m (.agg (ryC (Vp5 v x y dx dy part))) m:=by
 refine Ctr.en Tryz.func59 [.cell 12 180] 75 fun hwf Q hQ=>?_
 obtain ⟨px,hx⟩:∃ p,rayX v x dx=p:=⟨_,rfl⟩
 obtain ⟨py,hy⟩:∃ p,rayY v y dy=p:=⟨_,rfl⟩
 have hx1:Je4 (Je1 (2*Jc7 (ofI x) (Jb6 dx)) (ofI v.w)) (ofI v.h)=px:=hx
 have hy1:Je4 (Je1 (ofI v.h) (2*Jc7 (ofI y) (Jb6 dy))) (ofI v.h)=py:=hy
 have b1:=Jc6 (Ja3 (ofI x)+Ja3 (Jb6 dx))
 have b2:=Jc6 (Ja3 (ofI y)+Ja3 (Jb6 dy))
 have w1:IntKind.i64.wrap (2*Jc7 (ofI x) (Jb6 dx))=2*Jc7 (ofI x) (Jb6 dx):=wi (by unfold Jc7;omega)
 have w2:IntKind.i64.wrap (2*Jc7 (ofI y) (Jb6 dy))=2*Jc7 (ofI y) (Jb6 dy):=wi (by unfold Jc7;omega)
 obtain ⟨D,hD⟩:∃ D,D=rayD v px py:=⟨_,rfl⟩
 obtain ⟨F,hF⟩:∃ F,F=orV (Jb5 D) v.f:=⟨_,rfl⟩
 have hv:ryC (Vp5 v x y dx dy part)=c3C v.e++(c3C F++[.int .i64 part]):=by unfold Vp5;rw [hx,hy,<-hD,<-hF];rfl
 rw [hv] at hQ
 have U4:=ca4 @Jn5 @Ja5 hx1 hy1
 refine AW.wd [[.val,.ext,.val,.ext,.ext,.ext,.val,.rd 0,.ext,.ext,.val,.ext,.val]] 4 U4 (ca4 Kv0 Jv5 Jr8 (ca4 (Qw7 _ _ w1) Jr6 Jj8 (Qw7 _ _ w2))) ?_
 have q_2:=Ju3 (Jd7 (Jd7 z0V v.f) (Jd8 v.r (Jd3 px v.wd))) (Jd8 v.u (Jd3 py v.wd))
 rw [show Jd7 (Jd7 (Jd7 z0V v.f) (Jd8 v.r (Jd3 px v.wd))) (Jd8 v.u (Jd3 py v.wd))=D from hD.symm] at q_2
 refine AW.wd [[.val,.val,.rd 0,.ext,.val,.rd 0,.val,.val,.rd 0,.ext,.ext,.ext,.val,.rd 0,.val,.val,.rd 0,.ext,.ext,.ext,.fl,.wr]] 4 U4 (ca4 (Ju3 z0V v.f) Ji2 (Jp7 v.r (Jd3 px v.wd)) (ca4 (Ju3 (Jd7 z0V v.f) (Jd8 v.r (Jd3 px v.wd))) (Jp7 v.u (Jd3 py v.wd)) q_2 (Jm7 D))) fun K J0=>?_
 refine AW.condJ rfl [5,6,12,17] [] [(m.length+3,⟨.fix,54,0,0,[.int .i64 (F 0),.int .i64 (F 1),.int .i64 (F 2)]⟩)] (fun h67=>?_) (fun h67=>?_) ?_
 ·have hXe:F=v.f:=by rw [hF];exact if_pos h67
  have f0:F 0=v.f 0:=by rw [hXe]
  have f1:F 1=v.f 1:=by rw [hXe]
  have f2:F 2=v.f 2:=by rw [hXe]
  refine AW.w 1 U4 Tru ?_
  try simp only [Ja9,Ja2,push_cast,simprocAttr,U4,f0,f1,f2]
  exact Weak.same (by simp only [KS,simprocAttr,f0,f1,f2]) (by first|rfl|simp only [KS,simprocAttr,f0,f1,f2])
 ·have hXe:F=(Jb5 D):=by rw [hF];exact if_neg (fun q=>by rw [show z3 (Jb5 D)=false from h67] at q;cases q)
  have f0:F 0=(Jb5 D) 0:=by rw [hXe]
  have f1:F 1=(Jb5 D) 1:=by rw [hXe]
  have f2:F 2=(Jb5 D) 2:=by rw [hXe]
  refine AW.w 1 Tru Tru ?_
  try simp only [Ja9,Ja2,push_cast,simprocAttr,U4,f0,f1,f2]
  exact Weak.same (by simp only [KS,simprocAttr,f0,f1,f2]) (by first|rfl|simp only [KS,simprocAttr,f0,f1,f2])
 try simp only [Ja9,Ja2,push_cast,simprocAttr,U4]
 exact AW.f U4 Tru
noncomputable def Jj6 (u v:Int):V:=v3V (Jd3 (Jn7 (Je1 65536 (Jd3 (Je1 65536 (2*Jb6 u)) (Je1 65536 (2*Jb6 u))))) (Qg9 v)) (Jd3 (Jn7 (Je1 65536 (Jd3 (Je1 65536 (2*Jb6 u)) (Je1 65536 (2*Jb6 u))))) (Kb4 v)) (Je1 65536 (2*Jb6 u))
noncomputable def Jk0 (n:V)(u v:Int):V:=if Je2 (Jb5 (Jd7 (Jj6 u v) n)) n<=0 then n else Jb5 (Jd7 (Jj6 u v) n)
theorem Qg2 (u v:Int)(m:Ja1):Ctr Tryz.prog 197 [.one (.int .i64 u),.one (.int .i64 v)] m (.agg (c3C (Jj6 u v))) m:=by
 refine Ctr.en Tryz.func197 [.cell 4 59] 26 fun hwf Q hQ=>?_
 obtain ⟨z,hz⟩:∃ z,Je1 65536 (2*Jb6 u)=z:=⟨_,rfl⟩
 have hu:=Jt5 u
 have w1:IntKind.i64.wrap (2*Jb6 u)=2*Jb6 u:=wi (by omega)
 have w2:IntKind.i64.wrap (65536 - 2*Jb6 u)=z:=by
   rw [<-hz];unfold Je1
   rw [Jb4 (show -2147483648<=(65536:Int)/\(65536:Int)<=2147483648 by omega),Jb4 (show -2147483648<=2*Jb6 u/\2*Jb6 u<=2147483648 by omega),Jb4 (by omega)]
   exact wi (by omega)
 have hv:c3C (Jj6 u v)=[.int .i64 (Jd3 (Jn7 (Je1 65536 (Jd3 z z))) (Qg9 v)),.int .i64 (Jd3 (Jn7 (Je1 65536 (Jd3 z z))) (Kb4 v)),.int .i64 z]:=by rw [<-hz];rfl
 rw [hv] at hQ
 have U1:=ca2 w1 hz
 exact AW.f U1 (ca4 Kj5 Jx0 Jk7 (ca4 Qa0 Qi1 Ky1 Qb2))
theorem Kv3 (u v:Int)(m:Ja1):Ctr Tryz.prog 202 [.one (.int .i64 u),.one (.int .i64 v)] m (.agg (c3C (Jj6 u v))) m:=by
 refine Ctr.en Tryz.func202 [.cell 4 54] 26 fun hwf Q hQ=>?_
 obtain ⟨z,hz⟩:∃ z,Je1 65536 (2*Jb6 u)=z:=⟨_,rfl⟩
 have hu:=Jt5 u
 have w1:IntKind.i64.wrap (2*Jb6 u)=2*Jb6 u:=wi (by omega)
 have w2:IntKind.i64.wrap (65536 - 2*Jb6 u)=z:=by
   rw [<-hz];unfold Je1
   rw [Jb4 (show -2147483648<=(65536:Int)/\(65536:Int)<=2147483648 by omega),Jb4 (show -2147483648<=2*Jb6 u/\2*Jb6 u<=2147483648 by omega),Jb4 (by omega)]
   exact wi (by omega)
 have hv:c3C (Jj6 u v)=[.int .i64 (Jd3 (Jn7 (Je1 65536 (Jd3 z z))) (Qg9 v)),.int .i64 (Jd3 (Jn7 (Je1 65536 (Jd3 z z))) (Kb4 v)),.int .i64 z]:=by rw [<-hz];rfl
 rw [hv] at hQ
 have U2:=ca2 w1 w2
 exact AW.f U2 (ca4 Jv5 Ji2 Jr6 (ca3 Kk7 Ku0 Kk0))
theorem Ya8 (n:V)(u v:Int)(m:Ja1)(g:Je2 (Jb5 (Jd7 (Jj6 u v) n)) n<=0):Ctr Tryz.prog 134 [.agg (c3C n),.one (.int .i64 u),.one (.int .i64 v)] m (.agg (c3C (Jk0 n u v))) m:=by
 refine Ctr.en Tryz.func134 [.cell 6 59] 20 fun hwf Q hQ=>?_
 have hv:Jk0 n u v=n:=if_pos g
 rw [hv] at hQ
 have U3:=ca2 @Ja5 g
 exact AW.fd [[.val,.val,.ext,.rd 0,.ext,.ext,.fl,.wr]] U3 (ca4 (Qg2 u v) (Qh6 (Jj6 u v) n) (Jr4 (Jd7 (Jj6 u v) n)) (Jf0 (Jb5 (Jd7 (Jj6 u v) n)) n))
theorem Ya9 (n:V)(u v:Int)(m:Ja1)(g:¬Je2 (Jb5 (Jd7 (Jj6 u v) n)) n<=0):Ctr Tryz.prog 134 [.agg (c3C n),.one (.int .i64 u),.one (.int .i64 v)] m (.agg (c3C (Jk0 n u v))) m:=by
 refine Ctr.en Tryz.func134 [.cell 6 59] 20 fun hwf Q hQ=>?_
 have hv:Jk0 n u v=(Jb5 (Jd7 (Jj6 u v) n)):=if_neg g
 rw [hv] at hQ
 have U4:=ca2 @Ja5 g
 exact AW.fd [[.val,.val,.ext,.rd 0,.ext,.ext,.fl,.wr]] U4 (ca4 (Qg2 u v) (Qh6 (Jj6 u v) n) (Jr4 (Jd7 (Jj6 u v) n)) (Jf0 (Jb5 (Jd7 (Jj6 u v) n)) n))
theorem Qo8 (n:V)(u v:Int)(m:Ja1):Ctr Tryz.prog 134 [.agg (c3C n),.one (.int .i64 u),.one (.int .i64 v)] m (.agg (c3C (Jk0 n u v))) m:=by
 by_cases g:Je2 (Jb5 (Jd7 (Jj6 u v) n)) n<=0
 ·exact Ya8 n u v m g
 exact Ya9 n u v m g
theorem Xi5 (n:V)(u v:Int)(m:Ja1)(g:Je2 (Jb5 (Jd7 (Jj6 u v) n)) n<=0):Ctr Tryz.prog 153 [.agg (c3C n),.one (.int .i64 u),.one (.int .i64 v)] m (.agg (c3C (Jk0 n u v))) m:=by
 refine Ctr.en Tryz.func153 [.cell 6 54] 20 fun hwf Q hQ=>?_
 have hv:Jk0 n u v=n:=if_pos g
 rw [hv] at hQ
 have U5:=ca2 @Ja5 g
 exact AW.fd [[.val,.val,.ext,.rd 0,.ext,.ext,.fl,.wr]] U5 (ca4 (Kv3 u v) (Ju3 (Jj6 u v) n) (Jm7 (Jd7 (Jj6 u v) n)) (Jc8 (Jb5 (Jd7 (Jj6 u v) n)) n))
theorem Xi6 (n:V)(u v:Int)(m:Ja1)(g:¬Je2 (Jb5 (Jd7 (Jj6 u v) n)) n<=0):Ctr Tryz.prog 153 [.agg (c3C n),.one (.int .i64 u),.one (.int .i64 v)] m (.agg (c3C (Jk0 n u v))) m:=by
 refine Ctr.en Tryz.func153 [.cell 6 54] 20 fun hwf Q hQ=>?_
 have hv:Jk0 n u v=(Jb5 (Jd7 (Jj6 u v) n)):=if_neg g
 rw [hv] at hQ
 have U6:=ca2 @Ja5 g
 exact AW.fd [[.val,.val,.ext,.rd 0,.ext,.ext,.fl,.wr]] U6 (ca4 (Kv3 u v) (Ju3 (Jj6 u v) n) (Jm7 (Jd7 (Jj6 u v) n)) (Jc8 (Jb5 (Jd7 (Jj6 u v) n)) n))
theorem Kv5 (n:V)(u v:Int)(m:Ja1):Ctr Tryz.prog 153 [.agg (c3C n),.one (.int .i64 u),.one (.int .i64 v)] m (.agg (c3C (Jk0 n u v))) m:=by
 by_cases g:Je2 (Jb5 (Jd7 (Jj6 u v) n)) n<=0
 ·exact Xi5 n u v m g
 exact Xi6 n u v m g
def xsU (x:Int)(k:Nat):Int:=bits BinOp.xor .u64 x (x.fdiv (2 ^ min k IntKind.u64.bits))
def Qk9 (x:Int):Int:=xsU (IntKind.u64.wrap (xsU (IntKind.u64.wrap (xsU x 30*13787848793156543929)) 27*10723151780598845931)) 31
def Ju0 (h x:Int):Int:=Qk9 (IntKind.u64.wrap (h+11400714819323198485+x*11400714819323198485))
def Qg1 (a b c d e:Int):Int:=Qk9 (Ju0 (Ju0 (Ju0 (Ju0 (Ju0 5 a) b) c) d) e)
theorem Vy2 (h x:Int):IntKind.u64.wrap (IntKind.u64.wrap (h+11400714819323198485)+IntKind.u64.wrap (x*11400714819323198485))=IntKind.u64.wrap (h+11400714819323198485+x*11400714819323198485):=by
 rw [IntKind.wrap_u64,IntKind.wrap_u64,IntKind.wrap_u64,IntKind.wrap_u64];omega
theorem Xu1 (h x:Int):IntKind.u64.wrap (h+IntKind.u64.wrap (11400714819323198485*IntKind.u64.wrap (x+1)))=IntKind.u64.wrap (h+11400714819323198485+x*11400714819323198485):=by
 rw [IntKind.wrap_u64,IntKind.wrap_u64,IntKind.wrap_u64,IntKind.wrap_u64];omega
theorem Vy3 (h x:Int):Qk9 (IntKind.u64.wrap (h+11400714819323198485+x*11400714819323198485))=Ju0 h x:=rfl
theorem Qx8 (a:Int):Qk9 (IntKind.u64.wrap (IntKind.u64.wrap 11400714819323198490+IntKind.u64.wrap (a*11400714819323198485)))=Ju0 5 a:=by
 have h:=Vy2 5 a
 unfold Ju0
 rw [<-h];rfl
theorem Qy0 (a:Int):Qk9 (IntKind.u64.wrap (11400714819323198490+a*11400714819323198485))=Ju0 5 a:=by
 unfold Ju0;rfl
theorem Xs3 (x:Int)(k:Nat):xsU x k=(bits BinOp.xor .u64 x (x.fdiv (2 ^ min k IntKind.u64.bits))):=rfl
theorem Xy0 (x:Int)(m:Ja1):Ctr Tryz.prog 231 [.one (.int .u64 x)] m (.one (.int .u64 (Qk9 x))) m:=by
 refine Ctr.en Tryz.func231 [.tmp 2] 19 fun hwf Q hQ=>?_
 have hv:Qk9 x=xsU (IntKind.u64.wrap (xsU (IntKind.u64.wrap (xsU x 30*13787848793156543929)) 27*10723151780598845931)) 31:=rfl
 rw [hv] at hQ
 exact AW.f @Xs3 Tru
theorem Vy1 (x:Int)(m:Ja1):Ctr Tryz.prog 239 [.one (.int .u64 x)] m (.one (.int .u64 (Qk9 x))) m:=by
 refine Ctr.en Tryz.func239 [.tmp 2] 19 fun hwf Q hQ=>?_
 have hv:Qk9 x=xsU (IntKind.u64.wrap (xsU (IntKind.u64.wrap (xsU x 30*13787848793156543929)) 27*10723151780598845931)) 31:=rfl
 rw [hv] at hQ
 exact AW.f @Xs3 Tru
theorem Xy9 (a b c d e:Int)(r:Nat)(m:Ja1)(hb:∃ k ez v,m[r]?=some ⟨k,22,v,ez,[.int .u64 a,.int .u64 b,.int .u64 c,.int .u64 d,.int .u64 e]⟩/\v=0):Ctr Tryz.prog 188 [.one (.sl r 0 0 5)] m (.one (.int .u64 (Qg1 a b c d e))) m:=by
 refine Ctr.en Tryz.func188 [.tmp 2] 24 fun hwf Q hQ=>?_
 obtain ⟨k0,ez,v,hb,rfl⟩:=hb
 have lb:=Ja7 hb
 have hv:Qg1 a b c d e=Qk9 (Ju0 (Ju0 (Ju0 (Ju0 (Ju0 5 a) b) c) d) e):=rfl
 rw [hv] at hQ
 have w5:IntKind.u64.wrap 5=5:=rfl
 have U1:=ca4 hb (Ja4 hb) w5 (ca4 @Vy2 @Vy3 @Qx8 @Qy0)
 refine AW.w 5 U1 Tru fun K J0=>?_
 refine AW.r 6 ?_
 iterate 5
  refine AW.w 10 U1 Xy0 ?_
 exact AW.f U1 Xy0
theorem Xg4 (a b c d e:Int)(r:Nat)(m:Ja1)(hb:∃ k ez v,m[r]?=some ⟨k,22,v,ez,[.int .u64 a,.int .u64 b,.int .u64 c,.int .u64 d,.int .u64 e]⟩/\v=0):Ctr Tryz.prog 199 [.one (.sl r 0 0 5)] m (.one (.int .u64 (Qg1 a b c d e))) m:=by
 refine Ctr.en Tryz.func199 [.tmp 2] 25 fun hwf Q hQ=>?_
 obtain ⟨k0,ez,v,hb,rfl⟩:=hb
 have lb:=Ja7 hb
 have hv:Qg1 a b c d e=Qk9 (Ju0 (Ju0 (Ju0 (Ju0 (Ju0 5 a) b) c) d) e):=rfl
 rw [hv] at hQ
 have w5:IntKind.u64.wrap 5=5:=rfl
 have U2:=ca4 hb (Ja4 hb) w5 (ca4 @Xu1 @Vy3 @Qx8 @Qy0)
 refine AW.w 5 U2 Tru fun K J0=>?_
 refine AW.r 6 ?_
 iterate 5
  refine AW.w 12 U2 Vy1 ?_
 exact AW.f U2 Vy1
def Jn1 (sd a b c:Int):List CV:=[.int .u64 sd,.int .i64 a,.int .i64 b,.int .i64 c]
def Jw6 (sd a b c i:Int):Int:=Qg1 sd (IntKind.u64.wrap a) (IntKind.u64.wrap b) (IntKind.u64.wrap c) (IntKind.u64.wrap i)
theorem Kn5 (sd a b c:Int):Jn1 sd a b c=([.int .u64 sd,.int .i64 a,.int .i64 b,.int .i64 c]):=rfl
theorem Xb3 (sd a b c i:Int)(m:Ja1):Ctr Tryz.prog 112 [.agg (Jn1 sd a b c),.one (.int .i64 i)] m (.one (.int .u64 (Jw6 sd a b c i))) m:=by
 refine Ctr.en Tryz.func112 [.tmp 4] 20 fun hwf Q hQ=>?_
 have hv:Jw6 sd a b c i=Qg1 sd (IntKind.u64.wrap a) (IntKind.u64.wrap b) (IntKind.u64.wrap c) (IntKind.u64.wrap i):=rfl
 rw [hv] at hQ
 refine AW.sr 2 fun K J0=>?_
 simp only [push_cast,simprocAttr,Jn1]
 refine CThen.by (Xy9 sd (IntKind.u64.wrap a) (IntKind.u64.wrap b) (IntKind.u64.wrap c) (IntKind.u64.wrap i) _ _ ⟨.grow,1,0,by simp only [push_cast,simprocAttr],rfl⟩) ?_
 simp only [push_cast,simprocAttr,Jn1]
 exact AW.f @Kn5 Tru
theorem Vb2 (sd a b c i:Int)(m:Ja1):Ctr Tryz.prog 138 [.agg (Jn1 sd a b c),.one (.int .i64 i)] m (.one (.int .u64 (Jw6 sd a b c i))) m:=by
 refine Ctr.en Tryz.func138 [.tmp 4] 20 fun hwf Q hQ=>?_
 have hv:Jw6 sd a b c i=Qg1 sd (IntKind.u64.wrap a) (IntKind.u64.wrap b) (IntKind.u64.wrap c) (IntKind.u64.wrap i):=rfl
 rw [hv] at hQ
 refine AW.sr 2 fun K J0=>?_
 simp only [push_cast,simprocAttr,Jn1]
 refine CThen.by (Xg4 sd (IntKind.u64.wrap a) (IntKind.u64.wrap b) (IntKind.u64.wrap c) (IntKind.u64.wrap i) _ _ ⟨.grow,1,0,by simp only [push_cast,simprocAttr],rfl⟩) ?_
 simp only [push_cast,simprocAttr,Jn1]
 exact AW.f @Kn5 Tru
theorem mix_b (x:Int):0<=Qk9 x/\Qk9 x<18446744073709551616:=by
 unfold Qk9 xsU bits
 rw [IntKind.wrap_u64];omega
theorem Qp4 (sd a b c i:Int):0<=Jw6 sd a b c i/\Jw6 sd a b c i<18446744073709551616:=mix_b _
def Qg8 (sd a b c i:Int):Int:=Jw6 sd a b c i / 281474976710656
theorem Vh1 (sd a b c i:Int)(m:Ja1):Ctr Tryz.prog 47 [.agg (Jn1 sd a b c),.one (.int .i64 i)] m (.one (.int .i64 (Qg8 sd a b c i))) m:=by
 refine Ctr.en Tryz.func47 [.tmp 4] 10 fun hwf Q hQ=>?_
 obtain ⟨z,hz⟩:∃ z,Jw6 sd a b c i=z:=⟨_,rfl⟩
 have hb:=Qp4 sd a b c i
 rw [hz] at hb
 have hd:Qg8 sd a b c i=z / 281474976710656:=by unfold Qg8;rw [hz]
 rw [hd] at hQ
 have k1:z.fdiv (2 ^ min 48 IntKind.u64.bits)=z / 281474976710656:=Int.fdiv_eq_ediv_of_nonneg z (by decide)
 have k2:z.tdiv 281474976710656=z / 281474976710656:=Int.tdiv_eq_ediv_of_nonneg hb.1
 have k3:IntKind.u64.wrap (z / 281474976710656)=z / 281474976710656:=by rw [IntKind.wrap_u64];omega
 have k4:IntKind.i64.wrap (z / 281474976710656)=z / 281474976710656:=wi (by omega)
 have U1:=ca4 @Kn5 hz k1 (ca3 k2 k3 k4)
 exact AW.f U1 (Xb3 sd a b c i)
theorem Qf6 (sd a b c i:Int)(m:Ja1):Ctr Tryz.prog 57 [.agg (Jn1 sd a b c),.one (.int .i64 i)] m (.one (.int .i64 (Qg8 sd a b c i))) m:=by
 refine Ctr.en Tryz.func57 [.tmp 4] 10 fun hwf Q hQ=>?_
 obtain ⟨z,hz⟩:∃ z,Jw6 sd a b c i=z:=⟨_,rfl⟩
 have hb:=Qp4 sd a b c i
 rw [hz] at hb
 have hd:Qg8 sd a b c i=z / 281474976710656:=by unfold Qg8;rw [hz]
 rw [hd] at hQ
 have k1:z.fdiv (2 ^ min 48 IntKind.u64.bits)=z / 281474976710656:=Int.fdiv_eq_ediv_of_nonneg z (by decide)
 have k2:z.tdiv 281474976710656=z / 281474976710656:=Int.tdiv_eq_ediv_of_nonneg hb.1
 have k3:IntKind.u64.wrap (z / 281474976710656)=z / 281474976710656:=by rw [IntKind.wrap_u64];omega
 have k4:IntKind.i64.wrap (z / 281474976710656)=z / 281474976710656:=wi (by omega)
 have U2:=ca4 @Kn5 hz k1 (ca3 k2 k3 k4)
 exact AW.f U2 (Vb2 sd a b c i)
structure PixE (v:VW)(p:V)(Z A B X Y:Int):Prop where
 hZ:Jd3 (Je2 (Ja8 p v.e) v.f) v.wd=Z
 hA:Jd3 (Je4 (Je2 (Ja8 p v.e) v.r) Z) (ofI v.h)=A
 hB:Jd3 (Je4 (Je2 (Ja8 p v.e) v.u) Z) (ofI v.h)=B
 hX:Ja3 (Je4 (Jc7 A (ofI v.w)) 131072) / 65536=X
 hY:Ja3 (Je4 (Je1 (ofI v.h) B) 131072) / 65536=Y
theorem Xs5 (v:VW)(p:V)(Z A B X Y:Int)(m:Ja1)(hE:PixE v p Z A B X Y)(g0:Z<=0):Ctr Tryz.prog 171 [.agg (vwC v),.agg (c3C p)] m (.tup [(false,[.int .i64 0]),(false,[.int .i64 0]),(false,[.bool false])]) m:=by
 obtain ⟨hZ,hA,hB,hX,hY⟩:=hE
 have t1:=Jo6 (Jc7 A (ofI v.w)) 131072
 have t2:=Jo6 (Je1 (ofI v.h) B) 131072
 have e1:Je4 (Jc7 A (ofI v.w)) 131072 / 65536=X:=by rw [<-hX,Jb4 t1]
 have e2:Je4 (Je1 (ofI v.h) B) 131072 / 65536=Y:=by rw [<-hY,Jb4 t2]
 have U1:=ca4 @Jn5 @Ja5 hZ (ca4 hA hB hX (ca4 hY @decide_true @decide_false g0))
 exact Ctr.fd Tryz.func171 [.tmp 4,.tmp 5,.tmp 6] 76 [[.rd 0,.val,.rd 0,.ext,.val,.rd 0,.ext,.val]] U1 (ca3 (Jh4 p v.e) (Jf0 (Ja8 p v.e) v.f) Jk7)
theorem Xd4 (v:VW)(p:V)(Z A B X Y:Int)(m:Ja1)(hE:PixE v p Z A B X Y)(g0:Z<=0):Ctr Tryz.prog 172 [.agg (vwC v),.agg (c3C p)] m (.tup [(false,[.int .i64 0]),(false,[.int .i64 0]),(false,[.bool false])]) m:=by
 obtain ⟨hZ,hA,hB,hX,hY⟩:=hE
 have t1:=Jo6 (Jc7 A (ofI v.w)) 131072
 have t2:=Jo6 (Je1 (ofI v.h) B) 131072
 have e1:Je4 (Jc7 A (ofI v.w)) 131072 / 65536=X:=by rw [<-hX,Jb4 t1]
 have e2:Je4 (Je1 (ofI v.h) B) 131072 / 65536=Y:=by rw [<-hY,Jb4 t2]
 have U2:=ca4 @Jn5 @Ja5 hZ (ca4 hA hB e1 (ca4 e2 @decide_true @decide_false g0))
 exact Ctr.fd Tryz.func172 [.tmp 4,.tmp 5,.tmp 6] 78 [[.rd 0,.val,.rd 0,.ext,.val,.rd 0,.ext,.val]] U2 (ca3 (Je8 p v.e) (Jc8 (Ja8 p v.e) v.f) Ji2)
theorem Xt0 (v:VW)(p:V)(Z A B X Y:Int)(m:Ja1)(hE:PixE v p Z A B X Y)(g0:¬Z<=0)(g1:X<0):Ctr Tryz.prog 171 [.agg (vwC v),.agg (c3C p)] m (.tup [(false,[.int .i64 0]),(false,[.int .i64 0]),(false,[.bool false])]) m:=by
 obtain ⟨hZ,hA,hB,hX,hY⟩:=hE
 have t1:=Jo6 (Jc7 A (ofI v.w)) 131072
 have t2:=Jo6 (Je1 (ofI v.h) B) 131072
 have e1:Je4 (Jc7 A (ofI v.w)) 131072 / 65536=X:=by rw [<-hX,Jb4 t1]
 have e2:Je4 (Je1 (ofI v.h) B) 131072 / 65536=Y:=by rw [<-hY,Jb4 t2]
 have U3:=ca4 @Jn5 @Ja5 hZ (ca4 hA hB hX (ca4 hY @decide_true @decide_false (ca2 g0 g1)))
 exact Ctr.fd Tryz.func171 [.tmp 4,.tmp 5,.tmp 6] 76 [[.rd 0,.val,.rd 0,.ext,.val,.rd 0,.ext,.val]] U3 (ca4 (Jh4 p v.e) (Jf0 (Ja8 p v.e) v.f) Jk7 (ca4 Vq1 (Jf0 (Ja8 p v.e) v.r) Jr3 (ca4 (Jf0 (Ja8 p v.e) v.u) Jw7 Ke3 Jx0)))
theorem Xd9 (v:VW)(p:V)(Z A B X Y:Int)(m:Ja1)(hE:PixE v p Z A B X Y)(g0:¬Z<=0)(g1:X<0):Ctr Tryz.prog 172 [.agg (vwC v),.agg (c3C p)] m (.tup [(false,[.int .i64 0]),(false,[.int .i64 0]),(false,[.bool false])]) m:=by
 obtain ⟨hZ,hA,hB,hX,hY⟩:=hE
 have t1:=Jo6 (Jc7 A (ofI v.w)) 131072
 have t2:=Jo6 (Je1 (ofI v.h) B) 131072
 have e1:Je4 (Jc7 A (ofI v.w)) 131072 / 65536=X:=by rw [<-hX,Jb4 t1]
 have e2:Je4 (Je1 (ofI v.h) B) 131072 / 65536=Y:=by rw [<-hY,Jb4 t2]
 have U4:=ca4 @Jn5 @Ja5 hZ (ca4 hA hB e1 (ca4 e2 @decide_true @decide_false (ca2 g0 g1)))
 exact Ctr.fd Tryz.func172 [.tmp 4,.tmp 5,.tmp 6] 78 [[.rd 0,.val,.rd 0,.ext,.val,.rd 0,.ext,.val]] U4 (ca4 (Je8 p v.e) (Jc8 (Ja8 p v.e) v.f) Ji2 (ca4 Kv0 (Jc8 (Ja8 p v.e) v.r) Jj8 (ca4 (Jc8 (Ja8 p v.e) v.u) Jr8 (Jp5 (Je4 (Jc7 A (ofI v.w)) 131072) 65536 _ (by decide) (by omega) (by decide)) (ca2 Jr6 (Jp5 (Je4 (Je1 (ofI v.h) B) 131072) 65536 _ (by decide) (by omega) (by decide))))))
theorem Xs9 (v:VW)(p:V)(Z A B X Y:Int)(m:Ja1)(hE:PixE v p Z A B X Y)(g0:¬Z<=0)(g1:¬X<0)(g2:v.w<=X):Ctr Tryz.prog 171 [.agg (vwC v),.agg (c3C p)] m (.tup [(false,[.int .i64 0]),(false,[.int .i64 0]),(false,[.bool false])]) m:=by
 obtain ⟨hZ,hA,hB,hX,hY⟩:=hE
 have t1:=Jo6 (Jc7 A (ofI v.w)) 131072
 have t2:=Jo6 (Je1 (ofI v.h) B) 131072
 have e1:Je4 (Jc7 A (ofI v.w)) 131072 / 65536=X:=by rw [<-hX,Jb4 t1]
 have e2:Je4 (Je1 (ofI v.h) B) 131072 / 65536=Y:=by rw [<-hY,Jb4 t2]
 have U5:=ca4 @Jn5 @Ja5 hZ (ca4 hA hB hX (ca4 hY @decide_true @decide_false (ca3 g0 g1 g2)))
 exact Ctr.fd Tryz.func171 [.tmp 4,.tmp 5,.tmp 6] 76 [[.rd 0,.val,.rd 0,.ext,.val,.rd 0,.ext,.val]] U5 (ca4 (Jh4 p v.e) (Jf0 (Ja8 p v.e) v.f) Jk7 (ca4 Vq1 (Jf0 (Ja8 p v.e) v.r) Jr3 (ca4 (Jf0 (Ja8 p v.e) v.u) Jw7 Ke3 Jx0)))
theorem Xd8 (v:VW)(p:V)(Z A B X Y:Int)(m:Ja1)(hE:PixE v p Z A B X Y)(g0:¬Z<=0)(g1:¬X<0)(g2:v.w<=X):Ctr Tryz.prog 172 [.agg (vwC v),.agg (c3C p)] m (.tup [(false,[.int .i64 0]),(false,[.int .i64 0]),(false,[.bool false])]) m:=by
 obtain ⟨hZ,hA,hB,hX,hY⟩:=hE
 have t1:=Jo6 (Jc7 A (ofI v.w)) 131072
 have t2:=Jo6 (Je1 (ofI v.h) B) 131072
 have e1:Je4 (Jc7 A (ofI v.w)) 131072 / 65536=X:=by rw [<-hX,Jb4 t1]
 have e2:Je4 (Je1 (ofI v.h) B) 131072 / 65536=Y:=by rw [<-hY,Jb4 t2]
 have U6:=ca4 @Jn5 @Ja5 hZ (ca4 hA hB e1 (ca4 e2 @decide_true @decide_false (ca3 g0 g1 g2)))
 exact Ctr.fd Tryz.func172 [.tmp 4,.tmp 5,.tmp 6] 78 [[.rd 0,.val,.rd 0,.ext,.val,.rd 0,.ext,.val]] U6 (ca4 (Je8 p v.e) (Jc8 (Ja8 p v.e) v.f) Ji2 (ca4 Kv0 (Jc8 (Ja8 p v.e) v.r) Jj8 (ca4 (Jc8 (Ja8 p v.e) v.u) Jr8 (Jp5 (Je4 (Jc7 A (ofI v.w)) 131072) 65536 _ (by decide) (by omega) (by decide)) (ca2 Jr6 (Jp5 (Je4 (Je1 (ofI v.h) B) 131072) 65536 _ (by decide) (by omega) (by decide))))))
theorem Xs8 (v:VW)(p:V)(Z A B X Y:Int)(m:Ja1)(hE:PixE v p Z A B X Y)(g0:¬Z<=0)(g1:¬X<0)(g2:¬v.w<=X)(g3:Y<0):Ctr Tryz.prog 171 [.agg (vwC v),.agg (c3C p)] m (.tup [(false,[.int .i64 0]),(false,[.int .i64 0]),(false,[.bool false])]) m:=by
 obtain ⟨hZ,hA,hB,hX,hY⟩:=hE
 have t1:=Jo6 (Jc7 A (ofI v.w)) 131072
 have t2:=Jo6 (Je1 (ofI v.h) B) 131072
 have e1:Je4 (Jc7 A (ofI v.w)) 131072 / 65536=X:=by rw [<-hX,Jb4 t1]
 have e2:Je4 (Je1 (ofI v.h) B) 131072 / 65536=Y:=by rw [<-hY,Jb4 t2]
 have U7:=ca4 @Jn5 @Ja5 hZ (ca4 hA hB hX (ca4 hY @decide_true @decide_false (ca4 g0 g1 g2 g3)))
 exact Ctr.fd Tryz.func171 [.tmp 4,.tmp 5,.tmp 6] 76 [[.rd 0,.val,.rd 0,.ext,.val,.rd 0,.ext,.val]] U7 (ca4 (Jh4 p v.e) (Jf0 (Ja8 p v.e) v.f) Jk7 (ca4 Vq1 (Jf0 (Ja8 p v.e) v.r) Jr3 (ca4 (Jf0 (Ja8 p v.e) v.u) Jw7 Ke3 Jx0)))
theorem Xd7 (v:VW)(p:V)(Z A B X Y:Int)(m:Ja1)(hE:PixE v p Z A B X Y)(g0:¬Z<=0)(g1:¬X<0)(g2:¬v.w<=X)(g3:Y<0):Ctr Tryz.prog 172 [.agg (vwC v),.agg (c3C p)] m (.tup [(false,[.int .i64 0]),(false,[.int .i64 0]),(false,[.bool false])]) m:=by
 obtain ⟨hZ,hA,hB,hX,hY⟩:=hE
 have t1:=Jo6 (Jc7 A (ofI v.w)) 131072
 have t2:=Jo6 (Je1 (ofI v.h) B) 131072
 have e1:Je4 (Jc7 A (ofI v.w)) 131072 / 65536=X:=by rw [<-hX,Jb4 t1]
 have e2:Je4 (Je1 (ofI v.h) B) 131072 / 65536=Y:=by rw [<-hY,Jb4 t2]
 have U8:=ca4 @Jn5 @Ja5 hZ (ca4 hA hB e1 (ca4 e2 @decide_true @decide_false (ca4 g0 g1 g2 g3)))
 exact Ctr.fd Tryz.func172 [.tmp 4,.tmp 5,.tmp 6] 78 [[.rd 0,.val,.rd 0,.ext,.val,.rd 0,.ext,.val]] U8 (ca4 (Je8 p v.e) (Jc8 (Ja8 p v.e) v.f) Ji2 (ca4 Kv0 (Jc8 (Ja8 p v.e) v.r) Jj8 (ca4 (Jc8 (Ja8 p v.e) v.u) Jr8 (Jp5 (Je4 (Jc7 A (ofI v.w)) 131072) 65536 _ (by decide) (by omega) (by decide)) (ca2 Jr6 (Jp5 (Je4 (Je1 (ofI v.h) B) 131072) 65536 _ (by decide) (by omega) (by decide))))))
theorem Xs7 (v:VW)(p:V)(Z A B X Y:Int)(m:Ja1)(hE:PixE v p Z A B X Y)(g0:¬Z<=0)(g1:¬X<0)(g2:¬v.w<=X)(g3:¬Y<0)(g4:v.h<=Y):Ctr Tryz.prog 171 [.agg (vwC v),.agg (c3C p)] m (.tup [(false,[.int .i64 0]),(false,[.int .i64 0]),(false,[.bool false])]) m:=by
 obtain ⟨hZ,hA,hB,hX,hY⟩:=hE
 have t1:=Jo6 (Jc7 A (ofI v.w)) 131072
 have t2:=Jo6 (Je1 (ofI v.h) B) 131072
 have e1:Je4 (Jc7 A (ofI v.w)) 131072 / 65536=X:=by rw [<-hX,Jb4 t1]
 have e2:Je4 (Je1 (ofI v.h) B) 131072 / 65536=Y:=by rw [<-hY,Jb4 t2]
 have U9:=ca4 @Jn5 @Ja5 hZ (ca4 hA hB hX (ca4 hY @decide_true @decide_false (ca4 g0 g1 g2 (ca2 g3 g4))))
 exact Ctr.fd Tryz.func171 [.tmp 4,.tmp 5,.tmp 6] 76 [[.rd 0,.val,.rd 0,.ext,.val,.rd 0,.ext,.val]] U9 (ca4 (Jh4 p v.e) (Jf0 (Ja8 p v.e) v.f) Jk7 (ca4 Vq1 (Jf0 (Ja8 p v.e) v.r) Jr3 (ca4 (Jf0 (Ja8 p v.e) v.u) Jw7 Ke3 Jx0)))
theorem Xd6 (v:VW)(p:V)(Z A B X Y:Int)(m:Ja1)(hE:PixE v p Z A B X Y)(g0:¬Z<=0)(g1:¬X<0)(g2:¬v.w<=X)(g3:¬Y<0)(g4:v.h<=Y):Ctr Tryz.prog 172 [.agg (vwC v),.agg (c3C p)] m (.tup [(false,[.int .i64 0]),(false,[.int .i64 0]),(false,[.bool false])]) m:=by
 obtain ⟨hZ,hA,hB,hX,hY⟩:=hE
 have t1:=Jo6 (Jc7 A (ofI v.w)) 131072
 have t2:=Jo6 (Je1 (ofI v.h) B) 131072
 have e1:Je4 (Jc7 A (ofI v.w)) 131072 / 65536=X:=by rw [<-hX,Jb4 t1]
 have e2:Je4 (Je1 (ofI v.h) B) 131072 / 65536=Y:=by rw [<-hY,Jb4 t2]
 have U10:=ca4 @Jn5 @Ja5 hZ (ca4 hA hB e1 (ca4 e2 @decide_true @decide_false (ca4 g0 g1 g2 (ca2 g3 g4))))
 exact Ctr.fd Tryz.func172 [.tmp 4,.tmp 5,.tmp 6] 78 [[.rd 0,.val,.rd 0,.ext,.val,.rd 0,.ext,.val]] U10 (ca4 (Je8 p v.e) (Jc8 (Ja8 p v.e) v.f) Ji2 (ca4 Kv0 (Jc8 (Ja8 p v.e) v.r) Jj8 (ca4 (Jc8 (Ja8 p v.e) v.u) Jr8 (Jp5 (Je4 (Jc7 A (ofI v.w)) 131072) 65536 _ (by decide) (by omega) (by decide)) (ca2 Jr6 (Jp5 (Je4 (Je1 (ofI v.h) B) 131072) 65536 _ (by decide) (by omega) (by decide))))))
theorem Xs6 (v:VW)(p:V)(Z A B X Y:Int)(m:Ja1)(hE:PixE v p Z A B X Y)(g0:¬Z<=0)(g1:¬X<0)(g2:¬v.w<=X)(g3:¬Y<0)(g4:¬v.h<=Y):Ctr Tryz.prog 171 [.agg (vwC v),.agg (c3C p)] m (.tup [(false,[.int .i64 X]),(false,[.int .i64 Y]),(false,[.bool true])]) m:=by
 obtain ⟨hZ,hA,hB,hX,hY⟩:=hE
 have t1:=Jo6 (Jc7 A (ofI v.w)) 131072
 have t2:=Jo6 (Je1 (ofI v.h) B) 131072
 have e1:Je4 (Jc7 A (ofI v.w)) 131072 / 65536=X:=by rw [<-hX,Jb4 t1]
 have e2:Je4 (Je1 (ofI v.h) B) 131072 / 65536=Y:=by rw [<-hY,Jb4 t2]
 have U11:=ca4 @Jn5 @Ja5 hZ (ca4 hA hB hX (ca4 hY @decide_true @decide_false (ca4 g0 g1 g2 (ca2 g3 g4))))
 exact Ctr.fd Tryz.func171 [.tmp 4,.tmp 5,.tmp 6] 76 [[.rd 0,.val,.rd 0,.ext,.val,.rd 0,.ext,.val]] U11 (ca4 (Jh4 p v.e) (Jf0 (Ja8 p v.e) v.f) Jk7 (ca4 Vq1 (Jf0 (Ja8 p v.e) v.r) Jr3 (ca4 (Jf0 (Ja8 p v.e) v.u) Jw7 Ke3 Jx0)))
theorem Xd5 (v:VW)(p:V)(Z A B X Y:Int)(m:Ja1)(hE:PixE v p Z A B X Y)(g0:¬Z<=0)(g1:¬X<0)(g2:¬v.w<=X)(g3:¬Y<0)(g4:¬v.h<=Y):Ctr Tryz.prog 172 [.agg (vwC v),.agg (c3C p)] m (.tup [(false,[.int .i64 X]),(false,[.int .i64 Y]),(false,[.bool true])]) m:=by
 obtain ⟨hZ,hA,hB,hX,hY⟩:=hE
 have t1:=Jo6 (Jc7 A (ofI v.w)) 131072
 have t2:=Jo6 (Je1 (ofI v.h) B) 131072
 have e1:Je4 (Jc7 A (ofI v.w)) 131072 / 65536=X:=by rw [<-hX,Jb4 t1]
 have e2:Je4 (Je1 (ofI v.h) B) 131072 / 65536=Y:=by rw [<-hY,Jb4 t2]
 have U12:=ca4 @Jn5 @Ja5 hZ (ca4 hA hB e1 (ca4 e2 @decide_true @decide_false (ca4 g0 g1 g2 (ca2 g3 g4))))
 exact Ctr.fd Tryz.func172 [.tmp 4,.tmp 5,.tmp 6] 78 [[.rd 0,.val,.rd 0,.ext,.val,.rd 0,.ext,.val]] U12 (ca4 (Je8 p v.e) (Jc8 (Ja8 p v.e) v.f) Ji2 (ca4 Kv0 (Jc8 (Ja8 p v.e) v.r) Jj8 (ca4 (Jc8 (Ja8 p v.e) v.u) Jr8 (Jp5 (Je4 (Jc7 A (ofI v.w)) 131072) 65536 _ (by decide) (by omega) (by decide)) (ca2 Jr6 (Jp5 (Je4 (Je1 (ofI v.h) B) 131072) 65536 _ (by decide) (by omega) (by decide))))))
def Jd9 (a b:V):V:=fun k=>Jd3 (a k) (b k)
def Jj9 (a:V)(n:Int):V:=fun k=>if n<1 then 0 else Je4 (a k) (ofI n)
theorem Vf5 (f:Int->Int->Int)(g:Nat)(a b:V)(m:Ja1)(hf:∀ p q L,Ctr Tryz.prog g [.one (.int .i64 p),.one (.int .i64 q)] (m++L) (.one (.int .i64 (f p q))) (m++L)):Ctr Tryz.prog 129 [.agg (c3C a),.agg (c3C b),.one (.fn g [])] m (.agg (c3C (fun k=>f (a k) (b k)))) m:=by
 refine Ctr.en Tryz.func129 [.cell 6 42] 26 fun hwf Q hQ=>?_
 refine AW.sr 1 fun K J0=>?_
 simp only [push_cast,simprocAttr,c3C,Ji9]
 apply J0
 refine AW.q fun K J0=>?_
 refine AW.draw [.val,.val,.rd 0,.val,.rd 0,.ext,.val,.val,.rd 0,.val,.rd 0,.ext,.val,.val,.rd 0,.val,.rd 0,.ext,.val,.wr] fol (by decide) (by kernel_rfl) ?_
 iterate 3
  simp only [push_cast,simprocAttr,c3C,Ji9]
  refine DCall.z (hf _ _ _) ?_
 simp only [push_cast,simprocAttr,c3C,Ji9]
 exact AW.f Tru Tru
theorem Qn3 (a b:V)(m:Ja1):Ctr Tryz.prog 51 [.agg (c3C a),.agg (c3C b)] m (.agg (c3C (Jd7 a b))) m:=by
 exact Ctr.f Tryz.func51 [.cell 4 42] 8 @Ja5 (Vf5 Jc7 117 a b _ (fun p q L=>Jw7 p q _))
theorem Ko0 (a b:V)(m:Ja1):Ctr Tryz.prog 52 [.agg (c3C a),.agg (c3C b)] m (.agg (c3C (Jd9 a b))) m:=by
 exact Ctr.f Tryz.func52 [.cell 4 42] 8 @Ja5 (Vf5 Jd3 121 a b _ (fun p q L=>Jk7 p q _))
theorem Vf4 (x:Int)(m:Ja1):Ctr Tryz.prog 33 [.one (.int .i64 x)] m (.agg (c3C (fun _=>x))) m:=by
 exact Ctr.f Tryz.func33 [.cell 2 42] 7 @Ja5 Tru
theorem Qm7 (a:V)(x:Int)(m:Ja1):Ctr Tryz.prog 133 [.agg (c3C a),.one (.int .i64 x)] m (.agg (c3C (Jd8 a x))) m:=by
 exact Ctr.fd Tryz.func133 [.cell 4 42] 9 [[.rd 0,.val,.ext,.ext,.wr]] @Ja5 (ca2 (Vf4 x) (Ko0 a (fun _=>x)))
theorem Xm9 (a:V)(n:Int)(m:Ja1)(g:n<1):Ctr Tryz.prog 66 [.agg (c3C a),.one (.int .i64 n)] m (.agg (c3C (Jj9 a n))) m:=by
 refine Ctr.en Tryz.func66 [.cell 4 42] 24 fun hwf Q hQ=>?_
 have hv:c3C (Jj9 a n)=[.int .i64 0,.int .i64 0,.int .i64 0]:=by unfold c3C Jj9;simp only [g,if_true]
 rw [hv] at hQ
 have U1:=ca2 @Ja5 g
 exact AW.f U1 Tru
theorem Vo7 (a:V)(n:Int)(m:Ja1)(g:n<1):Ctr Tryz.prog 67 [.agg (c3C a),.one (.int .i64 n)] m (.agg (c3C (Jj9 a n))) m:=by
 refine Ctr.en Tryz.func67 [.cell 4 24] 23 fun hwf Q hQ=>?_
 have hv:c3C (Jj9 a n)=[.int .i64 0,.int .i64 0,.int .i64 0]:=by unfold c3C Jj9;simp only [g,if_true]
 rw [hv] at hQ
 have U2:=ca2 @Ja5 g
 exact AW.f U2 Tru
theorem Xn0 (a:V)(n:Int)(m:Ja1)(g:¬n<1):Ctr Tryz.prog 66 [.agg (c3C a),.one (.int .i64 n)] m (.agg (c3C (Jj9 a n))) m:=by
 refine Ctr.en Tryz.func66 [.cell 4 42] 24 fun hwf Q hQ=>?_
 have hv:c3C (Jj9 a n)=[.int .i64 (Je4 (a 0) (ofI n)),.int .i64 (Je4 (a 1) (ofI n)),.int .i64 (Je4 (a 2) (ofI n))]:=by unfold c3C Jj9;simp only [g,if_false]
 rw [hv] at hQ
 have U3:=ca2 @Ja5 g
 exact AW.fd [[.val,.rd 0,.val,.ext,.val,.rd 0,.val,.ext,.val,.rd 0,.val,.ext,.val,.wr]] U3 (ca2 Vq1 Jr3)
theorem Vo8 (a:V)(n:Int)(m:Ja1)(g:¬n<1):Ctr Tryz.prog 67 [.agg (c3C a),.one (.int .i64 n)] m (.agg (c3C (Jj9 a n))) m:=by
 refine Ctr.en Tryz.func67 [.cell 4 24] 23 fun hwf Q hQ=>?_
 have hv:c3C (Jj9 a n)=[.int .i64 (Je4 (a 0) (ofI n)),.int .i64 (Je4 (a 1) (ofI n)),.int .i64 (Je4 (a 2) (ofI n))]:=by unfold c3C Jj9;simp only [g,if_false]
 rw [hv] at hQ
 have U4:=ca2 @Ja5 g
 refine AW.w 10 U4 Tru fun K J0=>?_
 refine AW.r 4 ?_
 exact AW.fd [[.val,.val,.val,.rd 0,.val,.ext,.ext,.val,.wr],[.val,.val,.val,.rd 0,.val,.ext,.ext,.val,.wr],[.val,.val,.val,.rd 0,.val,.ext,.ext,.val,.wr]] U4 (ca2 Kv0 Jj8)
theorem Xn1 (a:V)(n:Int)(m:Ja1):Ctr Tryz.prog 66 [.agg (c3C a),.one (.int .i64 n)] m (.agg (c3C (Jj9 a n))) m:=by
 by_cases g:n<1
 ·exact Xm9 a n m g
 exact Xn0 a n m g
theorem Vo9 (a:V)(n:Int)(m:Ja1):Ctr Tryz.prog 67 [.agg (c3C a),.one (.int .i64 n)] m (.agg (c3C (Jj9 a n))) m:=by
 by_cases g:n<1
 ·exact Vo7 a n m g
 exact Vo8 a n m g
theorem Kv2 (a b:V)(m:Ja1):Ctr Tryz.prog 61 [.agg (c3C a),.agg (c3C b)] m (.agg (c3C (Jd7 a b))) m:=by
 refine Ctr.en Tryz.func61 [.cell 4 24] 21 fun hwf Q hQ=>?_
 refine AW.w 5 @Ja5 Tru fun K J0=>?_
 refine AW.r 4 ?_
 exact AW.fd [[.val,.val,.val,.rd 0,.val,.val,.rd 0,.ext,.val,.wr],[.val,.val,.val,.rd 0,.val,.val,.rd 0,.ext,.val,.wr],[.val,.val,.val,.rd 0,.val,.val,.rd 0,.ext,.val,.wr]] @Ja5 Jr8
theorem Ka3 (a b:V)(m:Ja1):Ctr Tryz.prog 62 [.agg (c3C a),.agg (c3C b)] m (.agg (c3C (Jd9 a b))) m:=by
 refine Ctr.en Tryz.func62 [.cell 4 24] 21 fun hwf Q hQ=>?_
 refine AW.w 5 @Ja5 Tru fun K J0=>?_
 refine AW.r 4 ?_
 exact AW.fd [[.val,.val,.val,.rd 0,.val,.val,.rd 0,.ext,.val,.wr],[.val,.val,.val,.rd 0,.val,.val,.rd 0,.ext,.val,.wr],[.val,.val,.val,.rd 0,.val,.val,.rd 0,.ext,.val,.wr]] @Ja5 Ji2
theorem Qa2 (a:V)(x:Int)(m:Ja1):Ctr Tryz.prog 152 [.agg (c3C a),.one (.int .i64 x)] m (.agg (c3C (Jd8 a x))) m:=by
 exact Ctr.f Tryz.func152 [.cell 4 24] 11 @Ja5 (Ka3 a (fun _=>x))
noncomputable def Jr7 (p n q:V):Int:=if Je2 (Jb5 (Ja8 q p)) n<=0 then 0 else Je4 (Je2 (Jb5 (Ja8 q p)) n) (Jc7 65536 (Jd3 (Kb7 (Ja8 q p)) (Kb7 (Ja8 q p))))
theorem Xi2 (p n q:V)(m:Ja1)(g:Je2 (Jb5 (Ja8 q p)) n<=0):Ctr Tryz.prog 132 [.agg (c3C p),.agg (c3C n),.agg (c3C q)] m (.tup [(true,c3C (Jb5 (Ja8 q p))),(false,[.int .i64 (Kb7 (Ja8 q p))]),(false,[.int .i64 (Jr7 p n q)])]) m:=by
 refine Ctr.en Tryz.func132 [.cell 6 59,.tmp 7,.tmp 8] 35 fun hwf Q hQ=>?_
 have hv:Jr7 p n q=0:=if_pos g
 rw [hv] at hQ
 have U1:=ca2 @Ja5 g
 exact AW.f U1 (ca4 (Jh4 q p) (Vr9 (Ja8 q p)) (Jr4 (Ja8 q p)) (Jf0 (Jb5 (Ja8 q p)) n))
theorem Vo1 (p n q:V)(m:Ja1)(g:Je2 (Jb5 (Ja8 q p)) n<=0):Ctr Tryz.prog 151 [.agg (c3C p),.agg (c3C n),.agg (c3C q)] m (.tup [(true,c3C (Jb5 (Ja8 q p))),(false,[.int .i64 (Kb7 (Ja8 q p))]),(false,[.int .i64 (Jr7 p n q)])]) m:=by
 refine Ctr.en Tryz.func151 [.cell 6 54,.tmp 7,.tmp 8] 35 fun hwf Q hQ=>?_
 have hv:Jr7 p n q=0:=if_pos g
 rw [hv] at hQ
 have U2:=ca2 @Ja5 g
 exact AW.f U2 (ca4 (Je8 q p) (Qj7 (Ja8 q p)) (Jm7 (Ja8 q p)) (Jc8 (Jb5 (Ja8 q p)) n))
theorem Xi3 (p n q:V)(m:Ja1)(g:¬Je2 (Jb5 (Ja8 q p)) n<=0):Ctr Tryz.prog 132 [.agg (c3C p),.agg (c3C n),.agg (c3C q)] m (.tup [(true,c3C (Jb5 (Ja8 q p))),(false,[.int .i64 (Kb7 (Ja8 q p))]),(false,[.int .i64 (Jr7 p n q)])]) m:=by
 refine Ctr.en Tryz.func132 [.cell 6 59,.tmp 7,.tmp 8] 35 fun hwf Q hQ=>?_
 have hv:Jr7 p n q=Je4 (Je2 (Jb5 (Ja8 q p)) n) (Jc7 65536 (Jd3 (Kb7 (Ja8 q p)) (Kb7 (Ja8 q p)))):=if_neg g
 rw [hv] at hQ
 have U3:=ca2 @Ja5 g
 exact AW.fd [[.rd 0,.val,.val,.val,.val,.ext,.ext,.ext,.wr,.val,.val]] U3 (ca4 (Jh4 q p) (Vr9 (Ja8 q p)) (Jr4 (Ja8 q p)) (ca4 (Jf0 (Jb5 (Ja8 q p)) n) Jk7 Jw7 Jr3))
theorem Vo2 (p n q:V)(m:Ja1)(g:¬Je2 (Jb5 (Ja8 q p)) n<=0):Ctr Tryz.prog 151 [.agg (c3C p),.agg (c3C n),.agg (c3C q)] m (.tup [(true,c3C (Jb5 (Ja8 q p))),(false,[.int .i64 (Kb7 (Ja8 q p))]),(false,[.int .i64 (Jr7 p n q)])]) m:=by
 refine Ctr.en Tryz.func151 [.cell 6 54,.tmp 7,.tmp 8] 35 fun hwf Q hQ=>?_
 have hv:Jr7 p n q=Je4 (Je2 (Jb5 (Ja8 q p)) n) (Jc7 65536 (Jd3 (Kb7 (Ja8 q p)) (Kb7 (Ja8 q p)))):=if_neg g
 rw [hv] at hQ
 have U4:=ca2 @Ja5 g
 exact AW.fd [[.rd 0,.val,.val,.val,.val,.ext,.ext,.ext,.wr,.val,.val]] U4 (ca4 (Je8 q p) (Qj7 (Ja8 q p)) (Jm7 (Ja8 q p)) (ca4 (Jc8 (Jb5 (Ja8 q p)) n) Ji2 Jr8 Jj8))
theorem Xi4 (p n q:V)(m:Ja1):Ctr Tryz.prog 132 [.agg (c3C p),.agg (c3C n),.agg (c3C q)] m (.tup [(true,c3C (Jb5 (Ja8 q p))),(false,[.int .i64 (Kb7 (Ja8 q p))]),(false,[.int .i64 (Jr7 p n q)])]) m:=by
 by_cases g:Je2 (Jb5 (Ja8 q p)) n<=0
 ·exact Xi2 p n q m g
 exact Xi3 p n q m g
theorem Vo3 (p n q:V)(m:Ja1):Ctr Tryz.prog 151 [.agg (c3C p),.agg (c3C n),.agg (c3C q)] m (.tup [(true,c3C (Jb5 (Ja8 q p))),(false,[.int .i64 (Kb7 (Ja8 q p))]),(false,[.int .i64 (Jr7 p n q)])]) m:=by
 by_cases g:Je2 (Jb5 (Ja8 q p)) n<=0
 ·exact Vo1 p n q m g
 exact Vo2 p n q m g
def Jo7 (sd a b c i n:Int):Int:=if n<1 then 0 else Jw6 sd a b c i / 2%n
theorem Xq2 (sd a b c i n:Int)(m:Ja1)(g:n<1):Ctr Tryz.prog 130 [.agg (Jn1 sd a b c),.one (.int .i64 i),.one (.int .i64 n)] m (.one (.int .i64 (Jo7 sd a b c i n))) m:=by
 refine Ctr.en Tryz.func130 [.tmp 6] 17 fun hwf Q hQ=>?_
 have hv:Jo7 sd a b c i n=0:=if_pos g
 rw [hv] at hQ
 exact AW.f g Tru
theorem Xq3 (sd a b c i n:Int)(m:Ja1)(g:¬n<1)(hn:n<=1000000000):Ctr Tryz.prog 130 [.agg (Jn1 sd a b c),.one (.int .i64 i),.one (.int .i64 n)] m (.one (.int .i64 (Jo7 sd a b c i n))) m:=by
 refine Ctr.en Tryz.func130 [.tmp 6] 17 fun hwf Q hQ=>?_
 obtain ⟨z,hz⟩:∃ z,Jw6 sd a b c i=z:=⟨_,rfl⟩
 have hb:=Qp4 sd a b c i
 rw [hz] at hb
 have hv:Jo7 sd a b c i n=z / 2%n:=by unfold Jo7;rw [if_neg g,hz]
 rw [hv] at hQ
 have m1:=Int.emod_nonneg (z / 2) (show n≠0 by omega)
 have m2:=Int.emod_lt_of_pos (z / 2) (show 0<n by omega)
 have k1:z.fdiv (2 ^ min 1 IntKind.u64.bits)=z / 2:=Int.fdiv_eq_ediv_of_nonneg z (by decide)
 have k2:z.tdiv 2=z / 2:=Int.tdiv_eq_ediv_of_nonneg hb.1
 have k3:IntKind.u64.wrap (z / 2)=z / 2:=by rw [IntKind.wrap_u64];omega
 have k4:IntKind.u64.wrap n=n:=by rw [IntKind.wrap_u64];omega
 have k5:(z / 2).tmod n=z / 2%n:=Int.tmod_eq_emod_of_nonneg (by omega)
 have k6:IntKind.u64.wrap (z / 2%n)=z / 2%n:=by rw [IntKind.wrap_u64];omega
 have k7:IntKind.i64.wrap (z / 2%n)=z / 2%n:=wi (by omega)
 have k8:¬n=0:=by omega
 have k9:(n ==0)=false:=by simp;omega
 have U1:=ca4 @Kn5 g hz (ca4 k1 k2 k3 (ca4 k4 k5 k6 (ca3 k7 k8 k9)))
 exact AW.f U1 (Xb3 sd a b c i)
theorem Xq4 (sd a b c i n:Int)(m:Ja1)(hn:n<=1000000000):Ctr Tryz.prog 130 [.agg (Jn1 sd a b c),.one (.int .i64 i),.one (.int .i64 n)] m (.one (.int .i64 (Jo7 sd a b c i n))) m:=by
 by_cases g:n<1
 ·exact Xq2 sd a b c i n m g
 exact Xq3 sd a b c i n m g hn
theorem Vp0 (sd a b c i n:Int)(m:Ja1)(g:n<1):Ctr Tryz.prog 149 [.agg (Jn1 sd a b c),.one (.int .i64 i),.one (.int .i64 n)] m (.one (.int .i64 (Jo7 sd a b c i n))) m:=by
 refine Ctr.en Tryz.func149 [.tmp 6] 17 fun hwf Q hQ=>?_
 have hv:Jo7 sd a b c i n=0:=if_pos g
 rw [hv] at hQ
 exact AW.f g Tru
theorem Vp1 (sd a b c i n:Int)(m:Ja1)(g:¬n<1)(hn:n<=1000000000):Ctr Tryz.prog 149 [.agg (Jn1 sd a b c),.one (.int .i64 i),.one (.int .i64 n)] m (.one (.int .i64 (Jo7 sd a b c i n))) m:=by
 refine Ctr.en Tryz.func149 [.tmp 6] 17 fun hwf Q hQ=>?_
 obtain ⟨z,hz⟩:∃ z,Jw6 sd a b c i=z:=⟨_,rfl⟩
 have hb:=Qp4 sd a b c i
 rw [hz] at hb
 have hv:Jo7 sd a b c i n=z / 2%n:=by unfold Jo7;rw [if_neg g,hz]
 rw [hv] at hQ
 have m1:=Int.emod_nonneg (z / 2) (show n≠0 by omega)
 have m2:=Int.emod_lt_of_pos (z / 2) (show 0<n by omega)
 have k1:z.fdiv (2 ^ min 1 IntKind.u64.bits)=z / 2:=Int.fdiv_eq_ediv_of_nonneg z (by decide)
 have k2:z.tdiv 2=z / 2:=Int.tdiv_eq_ediv_of_nonneg hb.1
 have k3:IntKind.u64.wrap (z / 2)=z / 2:=by rw [IntKind.wrap_u64];omega
 have k4:IntKind.u64.wrap n=n:=by rw [IntKind.wrap_u64];omega
 have k5:(z / 2).tmod n=z / 2%n:=Int.tmod_eq_emod_of_nonneg (by omega)
 have k6:IntKind.u64.wrap (z / 2%n)=z / 2%n:=by rw [IntKind.wrap_u64];omega
 have k7:IntKind.i64.wrap (z / 2%n)=z / 2%n:=wi (by omega)
 have k8:¬n=0:=by omega
 have k9:(n ==0)=false:=by simp;omega
 have U2:=ca4 @Kn5 g hz (ca4 k1 k2 k3 (ca4 k4 k5 k6 (ca3 k7 k8 k9)))
 exact AW.f U2 (Vb2 sd a b c i)
theorem Vp2 (sd a b c i n:Int)(m:Ja1)(hn:n<=1000000000):Ctr Tryz.prog 149 [.agg (Jn1 sd a b c),.one (.int .i64 i),.one (.int .i64 n)] m (.one (.int .i64 (Jo7 sd a b c i n))) m:=by
 by_cases g:n<1
 ·exact Vp0 sd a b c i n m g
 exact Vp1 sd a b c i n m g hn
def Kw0 (a:V):Int:=maxI 16384 (Jb6 (maxI (maxI (a 0) (a 1)) (a 2)))
def Jn4 (a:V)(u:Int):V:=fun k=>if Kw0 a<=Jb6 u then 0 else Je4 (a k) (Kw0 a)
theorem Xm3 (a:V)(u:Int)(m:Ja1)(g:Kw0 a<=Jb6 u):Ctr Tryz.prog 56 [.agg (c3C a),.one (.int .i64 u)] m (.tup [(true,c3C (Jn4 a u)),(false,[.bool false])]) m:=by
 refine Ctr.en Tryz.func56 [.cell 4 42,.tmp 5] 36 fun hwf Q hQ=>?_
 obtain ⟨x,hx⟩:∃ x,maxI (maxI (a 0) (a 1)) (a 2)=x:=⟨_,rfl⟩
 obtain ⟨z,hz⟩:∃ z,Kw0 a=z:=⟨_,rfl⟩
 have hz1:maxI 16384 (Jb6 x)=z:=by rw [<-hz,<-hx];rfl
 rw [hz] at g
 have hv:c3C (Jn4 a u)=[.int .i64 0,.int .i64 0,.int .i64 0]:=by unfold c3C Jn4;rw [hz];simp only [g,if_true]
 rw [hv] at hQ
 have U1:=ca4 @Ja5 hx hz1 g
 exact AW.f U1 Kj5
theorem Xm4 (a:V)(u:Int)(m:Ja1)(g:¬Kw0 a<=Jb6 u):Ctr Tryz.prog 56 [.agg (c3C a),.one (.int .i64 u)] m (.tup [(true,c3C (Jn4 a u)),(false,[.bool true])]) m:=by
 refine Ctr.en Tryz.func56 [.cell 4 42,.tmp 5] 36 fun hwf Q hQ=>?_
 obtain ⟨x,hx⟩:∃ x,maxI (maxI (a 0) (a 1)) (a 2)=x:=⟨_,rfl⟩
 obtain ⟨z,hz⟩:∃ z,Kw0 a=z:=⟨_,rfl⟩
 have hz1:maxI 16384 (Jb6 x)=z:=by rw [<-hz,<-hx];rfl
 rw [hz] at g
 have hv:c3C (Jn4 a u)=[.int .i64 (Je4 (a 0) z),.int .i64 (Je4 (a 1) z),.int .i64 (Je4 (a 2) z)]:=by unfold c3C Jn4;rw [hz];simp only [g,if_false]
 rw [hv] at hQ
 have U2:=ca4 @Ja5 hx hz1 g
 exact AW.fd [[.val,.rd 0,.val,.ext,.val,.rd 0,.val,.ext,.val,.rd 0,.val,.ext,.val,.wr,.val]] U2 (ca2 Kj5 Jr3)
theorem Vo5 (a:V)(u:Int)(m:Ja1)(g:Kw0 a<=Jb6 u):Ctr Tryz.prog 65 [.agg (c3C a),.one (.int .i64 u)] m (.tup [(true,c3C (Jn4 a u)),(false,[.bool false])]) m:=by
 refine Ctr.en Tryz.func65 [.cell 4 24,.tmp 5] 46 fun hwf Q hQ=>?_
 obtain ⟨x,hx⟩:∃ x,maxI (maxI (a 0) (a 1)) (a 2)=x:=⟨_,rfl⟩
 obtain ⟨z,hz⟩:∃ z,Kw0 a=z:=⟨_,rfl⟩
 have hz1:maxI 16384 (Jb6 x)=z:=by rw [<-hz,<-hx];rfl
 rw [hz] at g
 have hv:c3C (Jn4 a u)=[.int .i64 0,.int .i64 0,.int .i64 0]:=by unfold c3C Jn4;rw [hz];simp only [g,if_true]
 rw [hv] at hQ
 have U3:=ca3 @Ja5 hx g
 refine AW.w 5 U3 Tru fun K J0=>?_
 refine AW.r 3 ?_
 refine AW.w 9 U3 Tru fun K J1 K J2=>?_
 refine AW.condJ rfl [1,2,4,7] [(6,.one (.int .i64 (maxI (a 0) (a 1))))] [] (fun h21=>?_) (fun h21=>?_) ?_
 ·have hmn:maxI (a 0) (a 1)=(a 1):=if_pos (of_decide_eq_true h21)
  refine AW.w 1 U3 Tru ?_
  try simp only [Ja9,Ja2,push_cast,simprocAttr,U3,hmn]
  exact Weak.same (by simp only [KS,simprocAttr,hmn]) (by first|rfl|simp only [KS,simprocAttr,hmn])
 ·have hmn:maxI (a 0) (a 1)=(a 0):=if_neg (of_decide_eq_false h21)
  refine AW.w 1 Tru Tru ?_
  try simp only [Ja9,Ja2,push_cast,simprocAttr,U3,hmn]
  exact Weak.same (by simp only [KS,simprocAttr,hmn]) (by first|rfl|simp only [KS,simprocAttr,hmn])
 try simp only [Ja9,Ja2,push_cast,simprocAttr,U3]
 refine AW.w 12 U3 Tru fun K J1 K J2=>?_
 refine AW.condJ rfl [1,2,4,7] [(6,.one (.int .i64 x))] [] (fun h21=>?_) (fun h21=>?_) ?_
 ·have hmn:x=(a 2):=by rw [<-hx];exact if_pos (of_decide_eq_true h21)
  refine AW.w 1 U3 Tru ?_
  try simp only [Ja9,Ja2,push_cast,simprocAttr,U3,hmn]
  exact Weak.same (by simp only [KS,simprocAttr,hmn]) (by first|rfl|simp only [KS,simprocAttr,hmn])
 ·have hmn:x=maxI (a 0) (a 1):=by rw [<-hx];exact if_neg (of_decide_eq_false h21)
  refine AW.w 1 Tru Tru ?_
  try simp only [Ja9,Ja2,push_cast,simprocAttr,U3,hmn]
  exact Weak.same (by simp only [KS,simprocAttr,hmn]) (by first|rfl|simp only [KS,simprocAttr,hmn])
 try simp only [Ja9,Ja2,push_cast,simprocAttr,U3]
 refine AW.w 12 U3 Jv5 fun K J1 K J2 K J0=>?_
 refine AW.condJ rfl [1,2,4] [(8,.one (.int .i64 z))] [] (fun h28=>?_) (fun h28=>?_) ?_
 ·have hmn:z=16384:=by rw [<-hz1];have:=of_decide_eq_true h28;exact if_neg (by omega)
  refine AW.w 1 U3 Tru ?_
  try simp only [Ja9,Ja2,push_cast,simprocAttr,U3,hmn,hx]
  exact Weak.same (by simp only [KS,simprocAttr,hmn,hx]) (by first|rfl|simp only [KS,simprocAttr,hmn,hx])
 ·have hmn:z=Jb6 x:=by rw [<-hz1];have:=of_decide_eq_false h28;unfold maxI;split<;>omega
  refine AW.w 1 Tru Tru ?_
  try simp only [Ja9,Ja2,push_cast,simprocAttr,U3,hmn,hx]
  exact Weak.same (by simp only [KS,simprocAttr,hmn,hx]) (by first|rfl|simp only [KS,simprocAttr,hmn,hx])
 try simp only [Ja9,Ja2,push_cast,simprocAttr,U3]
 exact AW.f U3 Jv5
theorem Vo6 (a:V)(u:Int)(m:Ja1)(g:¬Kw0 a<=Jb6 u):Ctr Tryz.prog 65 [.agg (c3C a),.one (.int .i64 u)] m (.tup [(true,c3C (Jn4 a u)),(false,[.bool true])]) m:=by
 refine Ctr.en Tryz.func65 [.cell 4 24,.tmp 5] 46 fun hwf Q hQ=>?_
 obtain ⟨x,hx⟩:∃ x,maxI (maxI (a 0) (a 1)) (a 2)=x:=⟨_,rfl⟩
 obtain ⟨z,hz⟩:∃ z,Kw0 a=z:=⟨_,rfl⟩
 have hz1:maxI 16384 (Jb6 x)=z:=by rw [<-hz,<-hx];rfl
 rw [hz] at g
 have hv:c3C (Jn4 a u)=[.int .i64 (Je4 (a 0) z),.int .i64 (Je4 (a 1) z),.int .i64 (Je4 (a 2) z)]:=by unfold c3C Jn4;rw [hz];simp only [g,if_false]
 rw [hv] at hQ
 have U4:=ca3 @Ja5 hx g
 refine AW.w 5 U4 Tru fun K J0=>?_
 refine AW.r 3 ?_
 refine AW.w 9 U4 Tru fun K J1 K J2=>?_
 refine AW.condJ rfl [1,2,4,7] [(6,.one (.int .i64 (maxI (a 0) (a 1))))] [] (fun h21=>?_) (fun h21=>?_) ?_
 ·have hmn:maxI (a 0) (a 1)=(a 1):=if_pos (of_decide_eq_true h21)
  refine AW.w 1 U4 Tru ?_
  try simp only [Ja9,Ja2,push_cast,simprocAttr,U4,hmn]
  exact Weak.same (by simp only [KS,simprocAttr,hmn]) (by first|rfl|simp only [KS,simprocAttr,hmn])
 ·have hmn:maxI (a 0) (a 1)=(a 0):=if_neg (of_decide_eq_false h21)
  refine AW.w 1 Tru Tru ?_
  try simp only [Ja9,Ja2,push_cast,simprocAttr,U4,hmn]
  exact Weak.same (by simp only [KS,simprocAttr,hmn]) (by first|rfl|simp only [KS,simprocAttr,hmn])
 try simp only [Ja9,Ja2,push_cast,simprocAttr,U4]
 refine AW.w 12 U4 Tru fun K J1 K J2=>?_
 refine AW.condJ rfl [1,2,4,7] [(6,.one (.int .i64 x))] [] (fun h21=>?_) (fun h21=>?_) ?_
 ·have hmn:x=(a 2):=by rw [<-hx];exact if_pos (of_decide_eq_true h21)
  refine AW.w 1 U4 Tru ?_
  try simp only [Ja9,Ja2,push_cast,simprocAttr,U4,hmn]
  exact Weak.same (by simp only [KS,simprocAttr,hmn]) (by first|rfl|simp only [KS,simprocAttr,hmn])
 ·have hmn:x=maxI (a 0) (a 1):=by rw [<-hx];exact if_neg (of_decide_eq_false h21)
  refine AW.w 1 Tru Tru ?_
  try simp only [Ja9,Ja2,push_cast,simprocAttr,U4,hmn]
  exact Weak.same (by simp only [KS,simprocAttr,hmn]) (by first|rfl|simp only [KS,simprocAttr,hmn])
 try simp only [Ja9,Ja2,push_cast,simprocAttr,U4]
 refine AW.w 12 U4 Jv5 fun K J1 K J2 K J0=>?_
 refine AW.condJ rfl [1,2,4] [(8,.one (.int .i64 z))] [] (fun h28=>?_) (fun h28=>?_) ?_
 ·have hmn:z=16384:=by rw [<-hz1];have:=of_decide_eq_true h28;exact if_neg (by omega)
  refine AW.w 1 U4 Tru ?_
  try simp only [Ja9,Ja2,push_cast,simprocAttr,U4,hmn,hx]
  exact Weak.same (by simp only [KS,simprocAttr,hmn,hx]) (by first|rfl|simp only [KS,simprocAttr,hmn,hx])
 ·have hmn:z=Jb6 x:=by rw [<-hz1];have:=of_decide_eq_false h28;unfold maxI;split<;>omega
  refine AW.w 1 Tru Tru ?_
  try simp only [Ja9,Ja2,push_cast,simprocAttr,U4,hmn,hx]
  exact Weak.same (by simp only [KS,simprocAttr,hmn,hx]) (by first|rfl|simp only [KS,simprocAttr,hmn,hx])
 try simp only [Ja9,Ja2,push_cast,simprocAttr,U4]
 refine AW.w 10 U4 Jv5 fun K J0=>?_
 refine AW.r 4 ?_
 exact AW.f U4 Jj8
theorem Fit.size2 {N:Nat->ND}{C:Nat->Nat->Prop}{t:TR}{a b:Nat}(h:Fit N C t a b):t.size+1<=2*(b - a):=by
 induction h with
 | leaf _ _ _ h=>show 1+1<=_;omega
 | node _ l r _ _ _ _ _ _ fl fr _ h1 h2 =>
  have:=fl.lt
  have:=fr.lt
  show l.size+r.size+1+1<=_
  omega
theorem Qx7:∀ l:List (TR × Nat × Nat),l.length<=Jz9 l
 | []=>Nat.le_refl _
 | e::l=>by
  have:=Qx7 l
  have:=Kc2 e.1
  show l.length+1<=e.1.size+Jz9 l
  omega
structure FS where
 (q:Option (TR × Nat × Nat)) (stk:List (TR × Nat × Nat)) (b:Option (Int × Nat)) (ver cnt:Nat)
def qL:Option (TR × Nat × Nat)->List (TR × Nat × Nat)
 | none=>[]
 | some e=>[e]
def qR:Option (TR × Nat × Nat)->Nat
 | none=>0
 | some e=>e.1.root
def qZ:Option (TR × Nat × Nat)->Nat
 | none=>0
 | some e=>e.1.size - 1
def rtL (l:List (TR × Nat × Nat)):List Nat:=l.reverse.map fun e=>e.1.root
abbrev LK:=Nat->List (TR × Nat × Nat)->Option (Int × Nat)->Nat
structure FInv (N:Nat->ND)(C:Nat->Nat->Prop)(n:Nat)(o:List Nat)(H:Nat->Option Int)(tot:Nat)(lk:LK)(T:Nat)(s:FS):Prop where
 w:WInv N C n o H (qL s.q++s.stk) s.b
 z:s.q=none->s.stk=[]
 c:s.cnt+Jz9 s.stk+qZ s.q<=tot
 k:∃ f,Jz9 (qL s.q++s.stk)<=f/\s.cnt+lk f (qL s.q++s.stk) s.b=T+(qL s.q).length
def muF (s:FS):Nat:=Jz9 (qL s.q++s.stk)
theorem Kf0 (l:List (TR × Nat × Nat)):(rtL l).length=l.length:=by unfold rtL;simp
theorem Ku7 (e:TR × Nat × Nat)(l:List (TR × Nat × Nat)):rtL (e::l)=rtL l++[e.1.root]:=by unfold rtL;simp
section
variable {N:Nat->ND}{C:Nat->Nat->Prop}{n tot T:Nat}{o:List Nat}{H:Nat->Option Int}{lk:LK}{e x:TR × Nat × Nat}{stk stk':List (TR × Nat × Nat)}{b b':Option (Int × Nat)}{ver ver' cnt:Nat}
theorem FInv.step (h:FInv N C n o H tot lk T ⟨some e,stk,b,ver,cnt⟩){l:List (TR × Nat × Nat)}(hs:Jz9 l<e.1.size+Jz9 stk)(hl:∀ f,lk (f+1) (e::stk) b=1+lk f l b'):∃ f,Jz9 l<=f/\cnt+lk f l b'=T:=by
 obtain ⟨f,h1,h2⟩:=h.k
 have h1':e.1.size+Jz9 stk<=f:=h1
 have h2':cnt+lk f (e::stk) b=T+1:=h2
 obtain ⟨g,rfl⟩:∃ g,f=g+1:=⟨f - 1,by omega⟩
 rw [hl] at h2'
 exact ⟨g,by omega,by omega⟩
theorem FInv.pop0 (h:FInv N C n o H tot lk T ⟨some e,stk,b,ver,cnt⟩)(w:WInv N C n o H [] b')(hs:Jz9 []<e.1.size+Jz9 stk)(hl:∀ f,lk (f+1) (e::stk) b=1+lk f [] b'):FInv N C n o H tot lk T ⟨none,[],b',ver',cnt⟩ :=
 ⟨w,fun _=>rfl,by have:=h.c;show cnt+0+0<=tot;dsimp only at this;omega,h.step hs hl⟩
theorem FInv.pop1 (h:FInv N C n o H tot lk T ⟨some e,stk,b,ver,cnt⟩)(w:WInv N C n o H (x::stk') b')(hs:Jz9 (x::stk')<e.1.size+Jz9 stk)(hl:∀ f,lk (f+1) (e::stk) b=1+lk f (x::stk') b'):FInv N C n o H tot lk T ⟨some x,stk',b',ver',cnt+1⟩ :=
 by
  refine ⟨w,fun q=>(nomatch q),?_,?_⟩
  · have:=h.c
    have hs':x.1.size+Jz9 stk'<e.1.size+Jz9 stk:=hs
    have h1:=Kc2 x.1
    have h2:=Kc2 e.1
    have h3:cnt+Jz9 stk+(e.1.size - 1)<=tot:=this
    show cnt+1+Jz9 stk'+(x.1.size - 1)<=tot
    omega
  obtain ⟨f,h1,h2⟩:=h.step hs hl
  exact ⟨f,h1,by show cnt+1+lk f (x::stk') b'=T+1;omega⟩
end
def Qq2 (N:Nat->ND):TR->Nat
 | .leaf a=>(N a).count.toNat
 | .node _ l r=>Qq2 N l+Qq2 N r
theorem Fit.wid {N:Nat->ND}{C:Nat->Nat->Prop}{t:TR}{a b:Nat}(h:Fit N C t a b):b=a+Qq2 N t:=by
 induction h with
 | leaf _ _ _ h _ _ hc=>show _=_+(N _).count.toNat;rw [hc];omega
 | node _ l r _ _ _ _ _ _ _ _ _ h1 h2=>show _=_+(Qq2 N l+Qq2 N r);omega
open Classical in
noncomputable def Jz5 (nds:List ND)(o:List Nat)(r:RY)(mv:Nat->MV)(near far:Int):LK
 | 0,_,_=>0
 | _+1,[],_=>0
 | f+1,(t,a,c)::stk,b =>
  if ¬Ju6 (atP (Jy9 nds t.root).p r.part) (Ka0 r near (Jo8 far b)) then 1+Jz5 nds o r mv near far f stk b else
   match t with
   | .leaf _=>1+Jz5 nds o r mv near far f stk (Jq3 (Hq r mv near far) o a b (c - a))
   | .node _ l r'=>1+Jz5 nds o r mv near far f ((l,a,a+Qq2 (Jy9 nds) l)::(r',a+Qq2 (Jy9 nds) l,c)::stk) b
section
variable {nds:List ND}{o:List Nat}{r:RY}{mv:Nat->MV}{near far:Int}{f a c at':Nat}{t l r':TR}{stk:List (TR × Nat × Nat)}{b:Option (Int × Nat)}
theorem Vr6:Jz5 nds o r mv near far f [] b=0:=by cases f<;>rfl
theorem Qb6 {e:TR × Nat × Nat}(h:¬Ju6 (atP (Jy9 nds e.1.root).p r.part) (Ka0 r near (Jo8 far b))):Jz5 nds o r mv near far (f+1) (e::stk) b=1+Jz5 nds o r mv near far f stk b:=by
 obtain ⟨t,a,c⟩:=e
 exact if_pos h
theorem Qb7 (h:Ju6 (atP (Jy9 nds at').p r.part) (Ka0 r near (Jo8 far b))):Jz5 nds o r mv near far (f+1) ((.leaf at',a,c)::stk) b=1+Jz5 nds o r mv near far f stk (Jq3 (Hq r mv near far) o a b (c - a)):=if_neg (fun q=>q h)
theorem Ve4 (h:Ju6 (atP (Jy9 nds at').p r.part) (Ka0 r near (Jo8 far b))):Jz5 nds o r mv near far (f+1) ((.node at' l r',a,c)::stk) b=1+Jz5 nds o r mv near far f ((l,a,a+Qq2 (Jy9 nds) l)::(r',a+Qq2 (Jy9 nds) l,c)::stk) b:=if_neg (fun q=>q h)
end
theorem Xm6 {N:Nat->ND}{C:Nat->Nat->Prop}{n:Nat}{o:List Nat}{r:RY}{mv:Nat->MV}{near far:Int}{stk:List (TR × Nat × Nat)}{b:Option (Int × Nat)}(h:WInv N C n o (Hq r mv near far) stk b)(a k:Nat):Jo8 far (Jq3 (Hq r mv near far) o a b k)<=far:=by
 obtain ⟨V,h1,_⟩:=h.ex
 exact Vs3 (Vj3 r mv near far) h1 k
theorem Qs3 (r:RY)(mv:Nat->MV)(near far:Int)(b:Option (Int × Nat))(i:Nat)(hb:Jo8 far b<=far) :
  (Hq r mv near (Jo8 far b) i=none/\Kx7 b i (Hq r mv near far i)=b) \/
  (∃ t,Hq r mv near (Jo8 far b) i=some t/\b=none/\Kx7 b i (Hq r mv near far i)=some (t,i)) \/
  (∃ t u j,Hq r mv near (Jo8 far b) i=some t/\b=some (u,j)/\t<u/\Kx7 b i (Hq r mv near far i)=some (t,i)) \/
  (∃ t u j,Hq r mv near (Jo8 far b) i=some t/\b=some (u,j)/\¬t<u/\t=u/\i<j/\Kx7 b i (Hq r mv near far i)=some (t,i)) \/
  (∃ t u j,Hq r mv near (Jo8 far b) i=some t/\b=some (u,j)/\¬t<u/\t=u/\¬i<j/\Kx7 b i (Hq r mv near far i)=b) \/
  (∃ t u j,Hq r mv near (Jo8 far b) i=some t/\b=some (u,j)/\¬t<u/\¬t=u/\Kx7 b i (Hq r mv near far i)=b):=by
 have e:Kx7 b i (Hq r mv near (Jo8 far b) i)=Kx7 b i (Hq r mv near far i):=by
  rw [Xr2 r mv hb i];exact Vw2 (S:=fun _=>True) (Vj3 r mv near far) i
 rw [<-e]
 cases h:Hq r mv near (Jo8 far b) i with
 | none=>exact .inl ⟨rfl,rfl⟩
 | some t =>
  match b with
  | none=>exact .inr (.inl ⟨t,rfl,rfl,rfl⟩)
  | some (u,j) =>
   by_cases g:t<u
   ·exact .inr (.inr (.inl ⟨t,u,j,rfl,rfl,g,if_pos (.inl g)⟩))
   by_cases g2:t=u
   ·by_cases g3:i<j
    ·exact .inr (.inr (.inr (.inl ⟨t,u,j,rfl,rfl,g,g2,g3,if_pos (.inr ⟨g2,g3⟩)⟩)))
    exact .inr (.inr (.inr (.inr (.inl ⟨t,u,j,rfl,rfl,g,g2,g3,if_neg (fun q=>q.elim g fun q=>g3 q.2)⟩))))
   exact .inr (.inr (.inr (.inr (.inr ⟨t,u,j,rfl,rfl,g,g2,if_neg (fun q=>q.elim g fun q=>g2 q.1)⟩))))
theorem WInv.missN {nds:List ND}{n:Nat}{o:List Nat}{r:RY}{mv:Nat->MV}{near far:Int}{e:TR × Nat × Nat}{stk:List (TR × Nat × Nat)}{b:Option (Int × Nat)}
  (h:WInv (Jy9 nds) (Xr6 (prM mv) nds o) n o (Hq r mv near far) (e::stk) b) (hm:¬Ju6 (atP (Jy9 nds e.1.root).p r.part) (Ka0 r near (Jo8 far b))):WInv (Jy9 nds) (Xr6 (prM mv) nds o) n o (Hq r mv near far) stk b:=by
 obtain ⟨t,a,c⟩:=e
 refine h.miss (Vj3 r mv near far) fun x i h1 h2 hx u hu=>?_
 have hc:=(h.fit _ List.mem_cons_self).1.cov x h1 h2
 exact Vd0 (fun u q hq=>hc i u q hx hq) hm hu
theorem WInv.kinds {N:Nat->ND}{C:Nat->Nat->Prop}{n:Nat}{o:List Nat}{H:Nat->Option Int}{e:TR × Nat × Nat}{stk:List (TR × Nat × Nat)}{b:Option (Int × Nat)}(h:WInv N C n o H (e::stk) b) :
  (∃ at' a c,e=(.leaf at',a,c)/\(N at').first=(a:Int)/\(N at').count=((c - a:Nat):Int)/\a<c/\c<=a+4/\c<=n) \/
  (∃ at' l r a m c,e=(.node at' l r,a,c)/\(N at').count=0/\(N at').left=(l.root:Int)/\(N at').right=(r.root:Int)/\m=a+Qq2 N l/\WInv N C n o H ((l,a,m)::(r,m,c)::stk) b):=by
 obtain ⟨t,a,c⟩:=e
 have h0:=h.fit _ List.mem_cons_self
 cases h1:t with
 | leaf at' =>
  subst h1
  obtain ⟨f0,f1⟩:=h0
  cases f0 with
  | leaf _ _ _ q1 q2 q3 q4 _=>exact .inl ⟨at',a,c,rfl,q3,q4,q1,q2,f1⟩
 | node at' l r =>
  subst h1
  obtain ⟨m,hm⟩:=h.down
  obtain ⟨f0,f1⟩:=h0
  cases f0 with
  | node _ _ _ _ _ _ q1 q2 q3 _ _ _=>exact .inr ⟨at',l,r,a,m,c,rfl,q1,q2,q3,(hm.fit _ List.mem_cons_self).1.wid,hm⟩
theorem Vi0 (h g:HT)(m:Ja1)(e1:h.t<g.t):Ctr Tryz.prog 128 [.agg (htC h),.agg (htC g)] m (.one (.bool true)) m:=by
 have U1:=ca3 @Ji7 @Ja5 e1
 exact Ctr.f Tryz.func128 [.tmp 4] 24 U1 Tru
theorem Qd4 (h g:HT)(m:Ja1)(e1:¬h.t<g.t)(e2:h.t=g.t):Ctr Tryz.prog 128 [.agg (htC h),.agg (htC g)] m (.one (.bool (decide (h.i<g.i)))) m:=by
 have e3:(h.t ==g.t)=true:=beq_iff_eq.2 e2
 have U2:=ca4 @Ji7 @Ja5 e1 e3
 exact Ctr.f Tryz.func128 [.tmp 4] 24 U2 Tru
theorem Vh9 (h g:HT)(m:Ja1)(e1:¬h.t<g.t)(e2:¬h.t=g.t):Ctr Tryz.prog 128 [.agg (htC h),.agg (htC g)] m (.one (.bool false)) m:=by
 have e3:(h.t ==g.t)=false:=by simpa using e2
 have U3:=ca4 @Ji7 @Ja5 e1 e3
 exact Ctr.f Tryz.func128 [.tmp 4] 24 U3 Tru
theorem Qm4 (p:PR)(a b c d:Int)(m:Ja1):Ctr Tryz.prog 126 [.agg (prC p++[.int .i64 a,.int .i64 b,.int .i64 c,.int .i64 d])] m (.one (.bool (decide (0<d)))) m:=by
 have U4:=ca3 @Kf2 @Je6 @Ja5
 exact Ctr.f Tryz.func126 [.tmp 2] 6 U4 Tru
theorem Xo1 (r:RY)(mv:Nat->MV)(nb nv ob ov sb sv n T:Nat)(t:TR)(nds:List ND)(o:List Nat)(near far:Int)(m:Ja1)(hnb:∃ k ez,m[nb]?=some ⟨k,255,nv,ez,ndL nds⟩)(hob:∃ k ez,m[ob]?=some ⟨k,3,ov,ez,iC o⟩)(hsb:∃ k ez,m[sb]?=some ⟨k,204,sv,ez,Jb2 n (mF mv)⟩)(hn:n<=400000)(hnl:nds.length<=2000000)(hfit:Fit (Jy9 nds) (Xr6 (prM mv) nds o) t 0 n)(hrt:t.root=0)(hop:o.Perm (List.range n))(hT:Jz5 nds o r mv near far (2*n) [(t,0,n)] none=T):Ctr Tryz.prog 50 [.agg [.sl nb nv 0 nds.length,.sl ob ov 0 n,.sl sb sv 0 n],.agg (ryC r),.one (.int .i64 near),.one (.int .i64 far)] m (.tup [(true,htC (Jf4 r mv (Jg8 (Hq r mv near far) n))),(false,[.bool (Jg8 (Hq r mv near far) n).isSome]),(false,[.int .i64 (T:Int)])]) m:=by
 refine Ctr.en Tryz.func50 [.cell 8 165,.tmp 9,.tmp 10] 124 fun hwf Q hQ=>?_
 obtain ⟨kn,en,hnb⟩:=hnb
 obtain ⟨ko,eo,hob⟩:=hob
 obtain ⟨ks,es,hsb⟩:=hsb
 have ln:=Ja7 hnb
 have lo:=Ja7 hob
 have ls:=Ja7 hsb
 have hol:o.length=n:=by have:=hop.length_eq;simpa using this
 have nl:=Km7 nds
 have oc:(iC o).length=n:=by rw [Jg5,hol]
 have sc:(Jb2 n (mF mv)).length=n*24:=Ja6 (w:=24) (F:=mF mv) (fun _=>rfl) _
 have h0:0<nds.length:=by have:=Vd1 hfit;omega
 have hz0:((nds.length:Int) ==0)=false:=by rw [beq_eq_false_iff_ne];omega
 have hsz:=hfit.size2
 have hpz:=Kc2 t
 have hq0:qR (some (t,0,n))=0:=hrt
 have hI0:FInv (Jy9 nds) (Xr6 (prM mv) nds o) n o (Hq r mv near far) (2*n) (Jz5 nds o r mv near far) T ⟨some (t,0,n),[],none,0,1⟩ :=
   ⟨WInv.start hfit hol,fun q=>(nomatch q),by show 1+0+(t.size - 1)<=2*n;omega,2*n,by show t.size+0<=2*n;omega,by show 1+Jz5 nds o r mv near far (2*n) [(t,0,n)] none=T+1;omega⟩
 have U5:=ca4 hnb (Ja4 hnb) hob (ca4 (Ja4 hob) hsb (Ja4 hsb) (ca4 nl oc sc (ca3 hz0 @Jh1 @Ja5)))
 refine AW.c 3 U5 Tru ?_
 refine AW.q fun K J0=>?_
 refine AW.c 1 U5 Tru ?_
 apply AW.x rfl
 apply AW.z
 apply J0
 refine AW.c 1 U5 Tru ?_
 refine AW.q fun K J0=>?_
 refine AW.sr 1 fun K J1=>?_
 simp only [push_cast,simprocAttr,U5]
 refine CThen.by (Kv8 (m.length+5) (m.length+4) 0 0 [] 0 _ (by (simp only [push_cast,simprocAttr])<;>rfl) (by (simp only [push_cast,simprocAttr])<;>rfl) (by omega) (by omega) (by simp)) ?_
 simp only [push_cast,simprocAttr,U5]
 apply J1
 apply AW.b
 refine AW.loopK [2,4,5,8,11,13] (fun s=>FInv (Jy9 nds) (Xr6 (prM mv) nds o) n o (Hq r mv near far) (2*n) (Jz5 nds o r mv near far) T s) (fun s=>[(3,.one (.int .i64 (Jo8 far s.b))),(12,.one (.bool s.b.isSome)),(14,.one (.int .i64 (((qR s.q:Nat):Int)))),(15,.one (.bool s.q.isSome))]) (fun s=>[(m.length+3,⟨.fix,165,0,0,[.int .i64 (Jf4 r mv s.b).t,.int .i64 (Jf4 r mv s.b).i,.int .i64 ((Jf4 r mv s.b).p 0),.int .i64 ((Jf4 r mv s.b).p 1),.int .i64 ((Jf4 r mv s.b).p 2),.int .i64 ((Jf4 r mv s.b).n 0),.int .i64 ((Jf4 r mv s.b).n 1),.int .i64 ((Jf4 r mv s.b).n 2)]⟩),(m.length+4,⟨.grow,3,s.ver,1,iC (rtL s.stk)⟩),(m.length+5,⟨.fix,251,0,0,[.sl (m.length+4) s.ver 0 s.stk.length,.int .i64 (s.cnt:Int)]⟩)]) (fun s=>muF s) ⟨some (t,0,n),[],none,0,1⟩ hI0 ?_ ?_ fun s hi3=>?_
 · first|rfl|(simp only [KS,simprocAttr,hq0,Jf4,ht0,z0V,Jo8,rtL,List.reverse_nil,List.map_nil,iC,Int.natCast_zero,Int.natCast_one,List.length_nil,Option.isSome_none,Option.isSome_some]<;>repeat' (first|rfl|apply And.intro))
 · (simp only [Ja2,push_cast,simprocAttr,Jf4,ht0,z0V,rtL,List.reverse_nil,List.map_nil,iC])<;>rfl
 obtain ⟨sq,stk,b,ver,cnt⟩:=s
 have hfi:=hi3
 have hcb:=hfi.c
 dsimp only at hcb hfi ⊢
 try simp only [Ja9,Ja2,push_cast,simprocAttr,U5]
 refine AW.q fun K J1=>?_
 refine AW.c 1 U5 Tru ?_
 refine AW.cond rfl (fun h35=>?_) (fun h35=>?_)
 ·obtain ⟨e,rfl⟩:=Option.isSome_iff_exists.1 h35
  have w0:WInv (Jy9 nds) (Xr6 (prM mv) nds o) n o (Hq r mv near far) (e::stk) b:=hfi.w
  have hcb2:cnt+Jz9 stk+(e.1.size - 1)<=2*n:=hcb
  have hsl:=Qx7 stk
  have hse:=Kc2 e.1
  have hlt:=Vd1 (w0.fit e List.mem_cons_self).1
  obtain ⟨nd,hnd⟩:∃ nd,nd=Jy9 nds e.1.root:=⟨_,rfl⟩
  have hq1:((qR (some e):Nat):Int)=(e.1.root:Int):=rfl
  obtain ⟨x,hx⟩:∃ x,x=e.1.root:=⟨_,rfl⟩
  have hlx:x<nds.length:=by rw [hx];exact hlt
  have ga:List.take 16 (List.drop (x*16) (ndL nds))=[.int .i64 (nd.p.a.lo 0),.int .i64 (nd.p.a.lo 1),.int .i64 (nd.p.a.lo 2),.int .i64 (nd.p.a.hi 0),.int .i64 (nd.p.a.hi 1),.int .i64 (nd.p.a.hi 2),.int .i64 (nd.p.b.lo 0),.int .i64 (nd.p.b.lo 1),.int .i64 (nd.p.b.lo 2),.int .i64 (nd.p.b.hi 0),.int .i64 (nd.p.b.hi 1),.int .i64 (nd.p.b.hi 2),.int .i64 nd.left,.int .i64 nd.right,.int .i64 nd.first,.int .i64 nd.count]:=by
    have g9:=Jb7 (w:=16) (F:=fun i=>ndC (nds.getD i nd0)) (fun _=>rfl) hlx
    have g8:nd=nds.getD x nd0:=by rw [hnd,<-hx];exact Vq2 hlx
    rw [<-g8] at g9
    exact g9
  have c1:(0:Int)<=(x:Int):=by omega
  have c2:(x:Int)<(nds.length:Int):=by omega
  have c3:x*16+16<=nds.length*16:=by omega
  rw [hq1,<-hx]
  apply AW.z
  apply J1
  refine AW.q fun K J1=>?_
  apply AW.b
  have U6:=ca4 U5 ga c1 (ca3 c2 c3 hlx)
  refine AW.c 1 U6 Tru ?_
  refine AW.q fun K J2=>?_
  refine AW.q fun K J3=>?_
  by_cases hme:Ju6 (atP (Jy9 nds e.1.root).p r.part) (Ka0 r near (Jo8 far b))
  ·have hmb:(true=true)↔Ju6 (atP nd.p r.part) (Ka0 r near (Jo8 far b)):=by rw [hnd];exact ⟨fun _=>hme,fun _=>rfl⟩
   refine AW.e [.val,.rd 0,.val,.rd 0,.ext,.rd 0,.val,.val,.ext,.ext,.val] fol U6 (ca3 (Xx5 nd.p r.part) (Qa6 r near (Jo8 far b)) (Ve2 (atP nd.p r.part) (Ka0 r near (Jo8 far b)) _ true hmb)) ?_
   apply J3
   apply AW.x rfl
   apply AW.z
   apply J2
   refine AW.q fun K J2=>?_
   refine AW.q fun K J3=>?_
   rcases w0.kinds with ⟨at',a,c,rfl,k1,k2,k3,k4,k5⟩|⟨at',l,r',a,m9,c,rfl,k1,k2,k3,km,w9⟩
   ·have hm2:Ju6 (atP (Jy9 nds at').p r.part) (Ka0 r near (Jo8 far b)):=by simpa [hnd,TR.root] using hme
    obtain ⟨w9,hw9⟩:∃ w,w=c - a:=⟨_,rfl⟩
    have hnc:(0:Int)<(w9:Int):=by omega
    have hnf:nd.first=(a:Int):=by rw [hnd];exact k1
    have hnt:nd.count=(w9:Int):=by rw [hnd,hw9];exact k2
    have hwa:IntKind.i64.wrap ((a:Int)+(w9:Int))=(c:Int):=by rw [show (a:Int)+(w9:Int)=(c:Int) by omega];exact wi (by omega)
    have f1:(0:Int)<=(a:Int):=by omega
    have f2:(a:Int)<=(c:Int):=by omega
    have f3:(c:Int)<=(n:Int):=by omega
    have f4:c<=n:=k5
    have f5:a<=c:=by omega
    have hca:(c:Int) - (a:Int)=(w9:Int):=by omega
    have hw8:c - a=w9:=hw9.symm
    have w1:=w0.leaf hol k3
    rw [hw8] at w1
    have U7:=ca4 U6 hnc hnf (ca4 hnt hwa f1 (ca4 f2 f3 f4 (ca3 f5 hca hw8)))
    refine AW.g U7 (Qm4 nd.p) ?_
    apply J3
    apply AW.x rfl
    apply AW.z
    apply J2
    refine AW.c 1 U7 Tru ?_
    apply AW.b
    refine AW.loopK [2,4,5,8,11,13,84,85] (fun i=>i<=w9) (fun i=>[(3,.one (.int .i64 (Jo8 far (Jq3 (Hq r mv near far) o a b i)))),(12,.one (.bool (Jq3 (Hq r mv near far) o a b i).isSome)),(86,.one (.int .i64 (i:Int)))]) (fun i=>[(m.length+3,⟨.fix,165,0,0,[.int .i64 (Jf4 r mv (Jq3 (Hq r mv near far) o a b i)).t,.int .i64 (Jf4 r mv (Jq3 (Hq r mv near far) o a b i)).i,.int .i64 ((Jf4 r mv (Jq3 (Hq r mv near far) o a b i)).p 0),.int .i64 ((Jf4 r mv (Jq3 (Hq r mv near far) o a b i)).p 1),.int .i64 ((Jf4 r mv (Jq3 (Hq r mv near far) o a b i)).p 2),.int .i64 ((Jf4 r mv (Jq3 (Hq r mv near far) o a b i)).n 0),.int .i64 ((Jf4 r mv (Jq3 (Hq r mv near far) o a b i)).n 1),.int .i64 ((Jf4 r mv (Jq3 (Hq r mv near far) o a b i)).n 2)]⟩)]) (fun i=>w9 - i) 0 (by omega) ?_ ?_ fun i hi10=>?_
    · first|rfl|(simp only [KS,simprocAttr,Jq3,Int.natCast_zero]<;>repeat' (first|rfl|apply And.intro))
    · (simp only [Ja2,push_cast,simprocAttr,Jq3])<;>rfl
    try simp only [Ja9,Ja2,push_cast,simprocAttr,U7]
    refine AW.c 1 U7 Tru ?_
    refine AW.q fun K J2=>?_
    refine AW.cond rfl (fun h87=>?_) (fun h87=>?_)
    ·have hlt:i<w9:=by have:=of_decide_eq_true h87;omega
     have c1:(0:Int)<=(i:Int):=by omega
     have c2:(i:Int)<(w9:Int):=by omega
     obtain ⟨bi,hbi⟩:∃ bi,bi=(Jq3 (Hq r mv near far) o a b i):=⟨_,rfl⟩
     have hfb:Jo8 far bi<=far:=by rw [hbi];exact Xm6 w0 a i
     have hstep0:Jq3 (Hq r mv near far) o a b (i+1)=Kx7 bi (o.getD (a+i) 0) (Hq r mv near far (o.getD (a+i) 0)):=by rw [hbi];rfl
     have z1:(0:Int)<=(i:Int):=by omega
     have z2:(i:Int)<(w9:Int):=by omega
     have z3:a+i<o.length:=by omega
     obtain ⟨i9,hi9⟩:∃ i9,i9=o.getD (a+i) 0:=⟨_,rfl⟩
     rw [<-hi9] at hstep0
     have hcx:(iC o)[a+i]?=some (.int .i64 (i9:Int)):=by rw [hi9];exact Kn9 z3
     have x1:i9<n:=by
       have hm9:i9 ∈ o:=by rw [hi9,List.getD_eq_getElem?_getD,List.getElem?_eq_getElem z3];exact List.getElem_mem _
       simpa using hop.mem_iff.1 hm9
     have x2:(0:Int)<=(i9:Int):=by omega
     have x3:(i9:Int)<(n:Int):=by omega
     have x4:i9*24+24<=n*24:=by omega
     have gs:=Jb7 (w:=24) (F:=mF mv) (fun _=>rfl) x1
     have gsx:=Xm1 mv i9
     rw [<-hbi]
     apply AW.z
     apply J2
     refine AW.q fun K J2=>?_
     apply AW.b
     have U8:=ca4 U7 hcx x1 (ca4 x2 x3 x4 (ca4 gs gsx z1 (ca2 z2 hlt)))
     refine AW.c 1 U8 Tru ?_
     refine AW.q fun K J3=>?_
     rcases Qs3 r mv near far bi i9 hfb with ⟨ho,hst⟩|⟨t9,ho,hs0,hst⟩|⟨t9,u9,j9,ho,hs0,hg,hst⟩|⟨t9,u9,j9,ho,hs0,hg,hg2,hg3,hst⟩|⟨t9,u9,j9,ho,hs0,hg,hg2,hg3,hst⟩|⟨t9,u9,j9,ho,hs0,hg,hg2,hst⟩
     all_goals (have hstep:=hstep0.trans hst)
     ·have hth:htC (Jv1 r (atM (mv i9) r.part) none).1=[.int .i64 0,.int .i64 0,.int .i64 0,.int .i64 0,.int .i64 0,.int .i64 0,.int .i64 0,.int .i64 0]:=rfl
      have htb:(Jv1 r (atM (mv i9) r.part) none).2=false:=rfl
      have ho9:Js1 r (atM (mv i9) r.part) near (Jo8 far bi)=none:=ho
      have q_1:=Kr5 r (mv i9) near (Jo8 far bi)
      rw [ho9] at q_1
      have U9:=ca3 U8 hth htb
      refine AW.e [.rd 0,.val,.rd 0,.val,.val,.rd 0,.val,.val,.ext,.val,.val,.val,.fl,.wr,.val] fol U9 q_1 ?_
      apply J3
      refine AW.c 2 U9 Tru ?_
      apply AW.x rfl
      apply AW.z
      apply Kr3
      apply J2
      refine AW.g U9 Tru ?_
      apply Jk2
      have hwi:IntKind.i64.wrap ((i:Int)+1)=(i:Int)+1:=wi (by omega)
      refine ⟨i+1,by omega,by omega,?_⟩
      try simp only [Ja9,Ja2,push_cast,simprocAttr,U9,hwi,hstep]
      exact Weak.to (extra:=_) (by simp only [KS,simprocAttr,hwi,hstep]) (by first|rfl|(simp only [List.append_assoc,List.cons_append,List.nil_append];rfl)) (by first|rfl|(simp [AV.below,CV.below];done)|(simp [AV.below,CV.below];omega)) (by exact MWf.app (hwf.grow (by simp)) (Ja0 (by simp [CV.below];omega) (Ja0 rfl (Ja0 rfl (Ja0 rfl (Ja0 (Jg6 _ _) (Ja0 (by simp [CV.below]) (Ja0 rfl Jb3))))))))
     ·have hth:htC (Jv1 r (atM (mv i9) r.part) (some t9)).1=[.int .i64 t9,.int .i64 0,.int .i64 (Je3 r t9 0),.int .i64 (Je3 r t9 1),.int .i64 (Je3 r t9 2),.int .i64 (Jj1 r (atM (mv i9) r.part) t9 0),.int .i64 (Jj1 r (atM (mv i9) r.part) t9 1),.int .i64 (Jj1 r (atM (mv i9) r.part) t9 2)]:=rfl
      have htb:(Jv1 r (atM (mv i9) r.part) (some t9)).2=true:=rfl
      have hbh:htC (Jf4 r mv (some (t9,i9)))=[.int .i64 t9,.int .i64 (i9:Int),.int .i64 (Je3 r t9 0),.int .i64 (Je3 r t9 1),.int .i64 (Je3 r t9 2),.int .i64 (Jj1 r (atM (mv i9) r.part) t9 0),.int .i64 (Jj1 r (atM (mv i9) r.part) t9 1),.int .i64 (Jj1 r (atM (mv i9) r.part) t9 2)]:=rfl
      have ho9:Js1 r (atM (mv i9) r.part) near (Jo8 far bi)=some t9:=ho
      have hfr:Jo8 far (some (t9,i9))=t9:=rfl
      have q_2:=Kr5 r (mv i9) near (Jo8 far bi)
      rw [ho9,hs0] at q_2
      have U10:=ca4 U8 hs0 hth (ca3 htb hbh hfr)
      refine AW.e [.rd 0,.val,.rd 0,.val,.val,.rd 0,.val,.val,.ext,.val,.val,.val,.fl,.wr,.val] fol U10 q_2 ?_
      apply J3
      refine AW.c 2 U10 Tru ?_
      apply AW.y rfl
      refine AW.c 1 U10 Tru ?_
      refine AW.g U10 Tru ?_
      apply Kr3
      apply J2
      refine AW.g U10 Tru ?_
      apply Jk2
      have hwi:IntKind.i64.wrap ((i:Int)+1)=(i:Int)+1:=wi (by omega)
      refine ⟨i+1,by omega,by omega,?_⟩
      try simp only [Ja9,Ja2,push_cast,simprocAttr,U10,hwi,hstep]
      exact Weak.to (extra:=_) (by simp only [KS,simprocAttr,hwi,hstep]) (by first|rfl|(simp only [List.append_assoc,List.cons_append,List.nil_append];rfl)) (by first|rfl|(simp [AV.below,CV.below];done)|(simp [AV.below,CV.below];omega)) (by exact MWf.app (hwf.grow (by simp)) (Ja0 (by simp [CV.below];omega) (Ja0 rfl (Ja0 rfl (Ja0 rfl (Ja0 (Jg6 _ _) (Ja0 (by simp [CV.below]) (Ja0 rfl Jb3))))))))
     ·have hth:htC (Jv1 r (atM (mv i9) r.part) (some t9)).1=[.int .i64 t9,.int .i64 0,.int .i64 (Je3 r t9 0),.int .i64 (Je3 r t9 1),.int .i64 (Je3 r t9 2),.int .i64 (Jj1 r (atM (mv i9) r.part) t9 0),.int .i64 (Jj1 r (atM (mv i9) r.part) t9 1),.int .i64 (Jj1 r (atM (mv i9) r.part) t9 2)]:=rfl
      have htb:(Jv1 r (atM (mv i9) r.part) (some t9)).2=true:=rfl
      have hbh:htC (Jf4 r mv (some (t9,i9)))=[.int .i64 t9,.int .i64 (i9:Int),.int .i64 (Je3 r t9 0),.int .i64 (Je3 r t9 1),.int .i64 (Je3 r t9 2),.int .i64 (Jj1 r (atM (mv i9) r.part) t9 0),.int .i64 (Jj1 r (atM (mv i9) r.part) t9 1),.int .i64 (Jj1 r (atM (mv i9) r.part) t9 2)]:=rfl
      have ho9:Js1 r (atM (mv i9) r.part) near (Jo8 far bi)=some t9:=ho
      have hfr:Jo8 far (some (t9,i9))=t9:=rfl
      have q_3:=Kr5 r (mv i9) near (Jo8 far bi)
      rw [ho9,hs0] at q_3
      have U11:=ca4 U8 hs0 hth (ca3 htb hbh hfr)
      refine AW.e [.rd 0,.val,.rd 0,.val,.val,.rd 0,.val,.val,.ext,.val,.val,.val,.fl,.wr,.val] fol U11 q_3 ?_
      apply J3
      refine AW.c 2 U11 (Vi0 ⟨t9,(i9:Int),Je3 r t9,Jj1 r (atM (mv i9) r.part) t9⟩ (Jf4 r mv (some (u9,j9))) _ hg) ?_
      apply AW.y rfl
      refine AW.c 1 U11 Tru ?_
      refine AW.g U11 Tru ?_
      apply Kr3
      apply J2
      refine AW.g U11 Tru ?_
      apply Jk2
      have hwi:IntKind.i64.wrap ((i:Int)+1)=(i:Int)+1:=wi (by omega)
      refine ⟨i+1,by omega,by omega,?_⟩
      try simp only [Ja9,Ja2,push_cast,simprocAttr,U11,hwi,hstep]
      exact Weak.to (extra:=_) (by simp only [KS,simprocAttr,hwi,hstep]) (by first|rfl|(simp only [List.append_assoc,List.cons_append,List.nil_append];rfl)) (by first|rfl|(simp [AV.below,CV.below];done)|(simp [AV.below,CV.below];omega)) (by exact MWf.app (hwf.grow (by simp)) (Ja0 (by simp [CV.below];omega) (Ja0 rfl (Ja0 rfl (Ja0 rfl (Ja0 (Jg6 _ _) (Ja0 (by simp [CV.below]) (Ja0 rfl Jb3))))))))
     ·have hth:htC (Jv1 r (atM (mv i9) r.part) (some t9)).1=[.int .i64 t9,.int .i64 0,.int .i64 (Je3 r t9 0),.int .i64 (Je3 r t9 1),.int .i64 (Je3 r t9 2),.int .i64 (Jj1 r (atM (mv i9) r.part) t9 0),.int .i64 (Jj1 r (atM (mv i9) r.part) t9 1),.int .i64 (Jj1 r (atM (mv i9) r.part) t9 2)]:=rfl
      have htb:(Jv1 r (atM (mv i9) r.part) (some t9)).2=true:=rfl
      have hbh:htC (Jf4 r mv (some (t9,i9)))=[.int .i64 t9,.int .i64 (i9:Int),.int .i64 (Je3 r t9 0),.int .i64 (Je3 r t9 1),.int .i64 (Je3 r t9 2),.int .i64 (Jj1 r (atM (mv i9) r.part) t9 0),.int .i64 (Jj1 r (atM (mv i9) r.part) t9 1),.int .i64 (Jj1 r (atM (mv i9) r.part) t9 2)]:=rfl
      have ho9:Js1 r (atM (mv i9) r.part) near (Jo8 far bi)=some t9:=ho
      have hfr:Jo8 far (some (t9,i9))=t9:=rfl
      have hdi:decide ((i9:Int)<(j9:Int))=true:=decide_eq_true (by omega)
      have q_4:=Kr5 r (mv i9) near (Jo8 far bi)
      rw [ho9,hs0] at q_4
      have U12:=ca4 U8 hs0 hth (ca4 htb hbh hfr hdi)
      refine AW.e [.rd 0,.val,.rd 0,.val,.val,.rd 0,.val,.val,.ext,.val,.val,.val,.fl,.wr,.val] fol U12 q_4 ?_
      apply J3
      have q_5:=Qd4 ⟨t9,(i9:Int),Je3 r t9,Jj1 r (atM (mv i9) r.part) t9⟩ (Jf4 r mv (some (u9,j9)))
      rw [show decide (HT.i ⟨t9,(i9:Int),Je3 r t9,Jj1 r (atM (mv i9) r.part) t9⟩ < (Jf4 r mv (some (u9,j9))).i)=true from hdi] at q_5
      refine AW.c 2 U12 (q_5 _ hg hg2) ?_
      apply AW.y rfl
      refine AW.c 1 U12 Tru ?_
      refine AW.g U12 Tru ?_
      apply Kr3
      apply J2
      refine AW.g U12 Tru ?_
      apply Jk2
      have hwi:IntKind.i64.wrap ((i:Int)+1)=(i:Int)+1:=wi (by omega)
      refine ⟨i+1,by omega,by omega,?_⟩
      try simp only [Ja9,Ja2,push_cast,simprocAttr,U12,hwi,hstep]
      exact Weak.to (extra:=_) (by simp only [KS,simprocAttr,hwi,hstep]) (by first|rfl|(simp only [List.append_assoc,List.cons_append,List.nil_append];rfl)) (by first|rfl|(simp [AV.below,CV.below];done)|(simp [AV.below,CV.below];omega)) (by exact MWf.app (hwf.grow (by simp)) (Ja0 (by simp [CV.below];omega) (Ja0 rfl (Ja0 rfl (Ja0 rfl (Ja0 (Jg6 _ _) (Ja0 (by simp [CV.below]) (Ja0 rfl Jb3))))))))
     ·have hth:htC (Jv1 r (atM (mv i9) r.part) (some t9)).1=[.int .i64 t9,.int .i64 0,.int .i64 (Je3 r t9 0),.int .i64 (Je3 r t9 1),.int .i64 (Je3 r t9 2),.int .i64 (Jj1 r (atM (mv i9) r.part) t9 0),.int .i64 (Jj1 r (atM (mv i9) r.part) t9 1),.int .i64 (Jj1 r (atM (mv i9) r.part) t9 2)]:=rfl
      have htb:(Jv1 r (atM (mv i9) r.part) (some t9)).2=true:=rfl
      have hbh:htC (Jf4 r mv (some (t9,i9)))=[.int .i64 t9,.int .i64 (i9:Int),.int .i64 (Je3 r t9 0),.int .i64 (Je3 r t9 1),.int .i64 (Je3 r t9 2),.int .i64 (Jj1 r (atM (mv i9) r.part) t9 0),.int .i64 (Jj1 r (atM (mv i9) r.part) t9 1),.int .i64 (Jj1 r (atM (mv i9) r.part) t9 2)]:=rfl
      have ho9:Js1 r (atM (mv i9) r.part) near (Jo8 far bi)=some t9:=ho
      have hdi:decide ((i9:Int)<(j9:Int))=false:=decide_eq_false (by omega)
      have q_6:=Kr5 r (mv i9) near (Jo8 far bi)
      rw [ho9,hs0] at q_6
      have U13:=ca4 U8 hs0 hth (ca3 htb hbh hdi)
      refine AW.e [.rd 0,.val,.rd 0,.val,.val,.rd 0,.val,.val,.ext,.val,.val,.val,.fl,.wr,.val] fol U13 q_6 ?_
      apply J3
      have q_7:=Qd4 ⟨t9,(i9:Int),Je3 r t9,Jj1 r (atM (mv i9) r.part) t9⟩ (Jf4 r mv (some (u9,j9)))
      rw [show decide (HT.i ⟨t9,(i9:Int),Je3 r t9,Jj1 r (atM (mv i9) r.part) t9⟩ < (Jf4 r mv (some (u9,j9))).i)=false from hdi] at q_7
      refine AW.c 2 U13 (q_7 _ hg hg2) ?_
      apply AW.x rfl
      apply AW.z
      apply Kr3
      apply J2
      refine AW.g U13 Tru ?_
      apply Jk2
      have hwi:IntKind.i64.wrap ((i:Int)+1)=(i:Int)+1:=wi (by omega)
      refine ⟨i+1,by omega,by omega,?_⟩
      try simp only [Ja9,Ja2,push_cast,simprocAttr,U13,hwi,hstep]
      exact Weak.to (extra:=_) (by simp only [KS,simprocAttr,hwi,hstep]) (by first|rfl|(simp only [List.append_assoc,List.cons_append,List.nil_append];rfl)) (by first|rfl|(simp [AV.below,CV.below];done)|(simp [AV.below,CV.below];omega)) (by exact MWf.app (hwf.grow (by simp)) (Ja0 (by simp [CV.below];omega) (Ja0 rfl (Ja0 rfl (Ja0 rfl (Ja0 (Jg6 _ _) (Ja0 (by simp [CV.below]) (Ja0 rfl Jb3))))))))
     have hth:htC (Jv1 r (atM (mv i9) r.part) (some t9)).1=[.int .i64 t9,.int .i64 0,.int .i64 (Je3 r t9 0),.int .i64 (Je3 r t9 1),.int .i64 (Je3 r t9 2),.int .i64 (Jj1 r (atM (mv i9) r.part) t9 0),.int .i64 (Jj1 r (atM (mv i9) r.part) t9 1),.int .i64 (Jj1 r (atM (mv i9) r.part) t9 2)]:=rfl
     have htb:(Jv1 r (atM (mv i9) r.part) (some t9)).2=true:=rfl
     have hbh:htC (Jf4 r mv (some (t9,i9)))=[.int .i64 t9,.int .i64 (i9:Int),.int .i64 (Je3 r t9 0),.int .i64 (Je3 r t9 1),.int .i64 (Je3 r t9 2),.int .i64 (Jj1 r (atM (mv i9) r.part) t9 0),.int .i64 (Jj1 r (atM (mv i9) r.part) t9 1),.int .i64 (Jj1 r (atM (mv i9) r.part) t9 2)]:=rfl
     have ho9:Js1 r (atM (mv i9) r.part) near (Jo8 far bi)=some t9:=ho
     have q_8:=Kr5 r (mv i9) near (Jo8 far bi)
     rw [ho9,hs0] at q_8
     have U14:=ca4 U8 hs0 hth (ca2 htb hbh)
     refine AW.e [.rd 0,.val,.rd 0,.val,.val,.rd 0,.val,.val,.ext,.val,.val,.val,.fl,.wr,.val] fol U14 q_8 ?_
     apply J3
     refine AW.c 2 U14 (Vh9 ⟨t9,(i9:Int),Je3 r t9,Jj1 r (atM (mv i9) r.part) t9⟩ (Jf4 r mv (some (u9,j9))) _ hg hg2) ?_
     apply AW.x rfl
     apply AW.z
     apply Kr3
     apply J2
     refine AW.g U14 Tru ?_
     apply Jk2
     have hwi:IntKind.i64.wrap ((i:Int)+1)=(i:Int)+1:=wi (by omega)
     refine ⟨i+1,by omega,by omega,?_⟩
     try simp only [Ja9,Ja2,push_cast,simprocAttr,U14,hwi,hstep]
     exact Weak.to (extra:=_) (by simp only [KS,simprocAttr,hwi,hstep]) (by first|rfl|(simp only [List.append_assoc,List.cons_append,List.nil_append];rfl)) (by first|rfl|(simp [AV.below,CV.below];done)|(simp [AV.below,CV.below];omega)) (by exact MWf.app (hwf.grow (by simp)) (Ja0 (by simp [CV.below];omega) (Ja0 rfl (Ja0 rfl (Ja0 rfl (Ja0 (Jg6 _ _) (Ja0 (by simp [CV.below]) (Ja0 rfl Jb3))))))))
    have hin:i=w9:=by have:=of_decide_eq_false h87;omega
    rw [hin]
    apply AW.v
    apply Kx9
    apply Kx9
    apply Jq0
    apply Kr3
    apply J1
    rcases stk with _|⟨x8,stk8⟩
    ·have hNx:=hfi.pop0 (ver':=ver) w1 (by show 0<((TR.leaf at',a,c):TR × Nat × Nat).1.size+0;omega) (fun f=>by rw [hw9];exact Qb7 hm2)
     have hmu:muF ⟨none,[],(Jq3 (Hq r mv near far) o a b w9),ver,cnt⟩ < muF ⟨some ((TR.leaf at',a,c):TR × Nat × Nat),[],b,ver,cnt⟩:=by show 0<((TR.leaf at',a,c):TR × Nat × Nat).1.size+0;omega
     refine AW.rg ?_
     simp only [push_cast,simprocAttr,U7]
     refine CThen.by (Vd3 (m.length+5) (m.length+4) ver 0 (cnt:Int) [] _ (by (simp only [push_cast,simprocAttr])<;>rfl) (by (simp only [push_cast,simprocAttr])<;>rfl) (by omega) rfl) ?_
     simp only [push_cast,simprocAttr,U7]
     apply Jk2
     refine ⟨_,hNx,hmu,?_⟩
     try simp only [Ja9,Ja2,push_cast,simprocAttr,U7,Option.isSome_none,Option.isSome_some,qR,Int.natCast_add,Int.natCast_one,List.length_cons,List.length_nil]
     exact Weak.to (extra:=_) (by simp only [KS,simprocAttr,Option.isSome_none,Option.isSome_some,qR,Int.natCast_add,Int.natCast_one,List.length_cons,List.length_nil]) (by first|rfl|(simp only [List.append_assoc,List.cons_append,List.nil_append];rfl)) (by first|rfl|(simp [AV.below,CV.below];done)|(simp [AV.below,CV.below];omega)) (by exact MWf.app (hwf.grow (by simp)) (Ja0 (by simp [CV.below];omega) (Ja0 rfl (Ja0 rfl (Ja0 rfl (Ja0 (Jg6 _ _) (Ja0 (by simp [CV.below]) Jb3)))))))
    have hNx:=hfi.pop1 (ver':=ver) w1 (by show x8.1.size+Jz9 stk8<((TR.leaf at',a,c):TR × Nat × Nat).1.size+(x8.1.size+Jz9 stk8);omega) (fun f=>by rw [hw9];exact Qb7 hm2)
    have hmu:muF ⟨some x8,stk8,(Jq3 (Hq r mv near far) o a b w9),ver,cnt+1⟩ < muF ⟨some ((TR.leaf at',a,c):TR × Nat × Nat),x8::stk8,b,ver,cnt⟩:=by show x8.1.size+Jz9 stk8<((TR.leaf at',a,c):TR × Nat × Nat).1.size+(x8.1.size+Jz9 stk8);omega
    have hl8:(x8::stk8).length=(rtL stk8).length+1:=by rw [Kf0];rfl
    have hl9:=Kf0 stk8
    have hrc:=Ku7 x8 stk8
    have hl7:stk8.length<=1000000:=by have:(x8::stk8).length<=_:=hsl;simp only [List.length_cons] at this;omega
    refine AW.rg ?_
    simp only [push_cast,simprocAttr,U7,hl8,hrc,hl9]
    refine CThen.by (Kv8 (m.length+5) (m.length+4) ver (cnt:Int) (rtL stk8) x8.1.root _ (by (simp only [push_cast,simprocAttr,hl9])<;>rfl) (by (simp only [push_cast,simprocAttr,hrc])<;>rfl) (by omega) (by omega) (by omega)) ?_
    simp only [push_cast,simprocAttr,U7,hl8,hrc,hl9]
    apply Jk2
    refine ⟨_,hNx,hmu,?_⟩
    try simp only [Ja9,Ja2,push_cast,simprocAttr,U7,hl8,hrc,hl9,Option.isSome_none,Option.isSome_some,qR,Int.natCast_add,Int.natCast_one,List.length_cons,List.length_nil]
    exact Weak.to (extra:=_) (by simp only [KS,simprocAttr,Option.isSome_none,Option.isSome_some,qR,Int.natCast_add,Int.natCast_one,List.length_cons,List.length_nil]) (by first|rfl|(simp only [List.append_assoc,List.cons_append,List.nil_append];rfl)) (by first|rfl|(simp [AV.below,CV.below];done)|(simp [AV.below,CV.below];omega)) (by exact MWf.app (hwf.grow (by simp)) (Ja0 (by simp [CV.below];omega) (Ja0 rfl (Ja0 rfl (Ja0 rfl (Ja0 (Jg6 _ _) (Ja0 (by simp [CV.below]) Jb3)))))))
   have hm2:Ju6 (atP (Jy9 nds at').p r.part) (Ka0 r near (Jo8 far b)):=by simpa [hnd,TR.root] using hme
   have hnc:¬(0:Int)<nd.count:=by rw [hnd];show ¬0<(Jy9 nds at').count;omega
   have hnl9:nd.left=(l.root:Int):=by rw [hnd];exact k2
   have hnr9:nd.right=(r'.root:Int):=by rw [hnd];exact k3
   have hsq:TR.size (.node at' l r')=l.size+r'.size+1:=rfl
   have q1:stk.length<=140737488355326:=by omega
   obtain ⟨l9,hl99⟩:∃ l9,l9=rtL stk++[r'.root]:=⟨_,rfl⟩
   have q2:(stk.length+2)*8<=140737488355328:=by omega
   have hap:iC (rtL stk)++[.int .i64 (r'.root:Int),.int .i64 (l.root:Int)]=iC (l9++[l.root]):=by rw [hl99,<-Jy1,<-Jy1,List.append_assoc];rfl
   have hgl:(iC (rtL stk)).length=stk.length:=by rw [Jg5,Kf0]
   have hl8:l9.length=stk.length+1:=by rw [hl99,List.length_append,Kf0];rfl
   subst km
   have hrc:rtL ((r',a+Qq2 (Jy9 nds) l,c)::stk)=l9:=by rw [hl99];exact Ku7 _ _
   have hNx:=hfi.pop1 (ver':=ver+1) w9 (by show l.size+(r'.size+Jz9 stk)<(l.size+r'.size+1)+Jz9 stk;omega) (fun f=>Ve4 hm2)
   have hmu:muF ⟨some (l,a,a+Qq2 (Jy9 nds) l),(r',a+Qq2 (Jy9 nds) l,c)::stk,b,ver+1,cnt+1⟩ < muF ⟨some (.node at' l r',a,c),stk,b,ver,cnt⟩:=by show l.size+(r'.size+Jz9 stk)<(l.size+r'.size+1)+Jz9 stk;omega
   have U15:=ca4 U6 hnc hnl9 (ca4 hnr9 q1 q2 (ca4 hgl hap hl8 hrc))
   refine AW.g U15 (Qm4 nd.p) ?_
   apply J3
   apply AW.y rfl
   refine AW.d [.val,.val,.val,.val,.rd 0,.val,.rd 0,.val,.rd 0,.ext,.wr,.val,.val,.wr] fol U15 Tru ?_
   apply AW.v
   apply Kx9
   apply Jq0
   apply J1
   refine AW.rg ?_
   simp only [push_cast,simprocAttr,U15]
   refine CThen.by (Kv8 (m.length+5) (m.length+4) (ver+1) (cnt:Int) l9 l.root _ (by (simp only [push_cast,simprocAttr,hl8])<;>rfl) (by (simp only [push_cast,simprocAttr,hap])<;>rfl) (by omega) (by omega) (by omega)) ?_
   simp only [push_cast,simprocAttr,U15]
   apply Jk2
   refine ⟨_,hNx,hmu,?_⟩
   try simp only [Ja9,Ja2,push_cast,simprocAttr,U15,Option.isSome_none,Option.isSome_some,qR,Int.natCast_add,Int.natCast_one,List.length_cons,List.length_nil]
   exact Weak.to (extra:=_) (by simp only [KS,simprocAttr,Option.isSome_none,Option.isSome_some,qR,Int.natCast_add,Int.natCast_one,List.length_cons,List.length_nil]) (by first|rfl|(simp only [List.append_assoc,List.cons_append,List.nil_append];rfl)) (by first|rfl|(simp [AV.below,CV.below];done)|(simp [AV.below,CV.below];omega)) (by exact MWf.app (hwf.grow (by simp)) (Ja0 (by simp [CV.below];omega) (Ja0 rfl (Ja0 rfl (Ja0 rfl (Ja0 (Jg6 _ _) (Ja0 (by simp [CV.below]) Jb3)))))))
  have hmb:(false=true)↔Ju6 (atP nd.p r.part) (Ka0 r near (Jo8 far b)):=by rw [hnd];exact ⟨fun h=>(nomatch h),fun h=>(hme h).elim⟩
  refine AW.e [.val,.rd 0,.val,.rd 0,.ext,.rd 0,.val,.val,.ext,.ext,.val] fol U6 (ca3 (Xx5 nd.p r.part) (Qa6 r near (Jo8 far b)) (Ve2 (atP nd.p r.part) (Ka0 r near (Jo8 far b)) _ false hmb)) ?_
  apply J3
  apply AW.y rfl
  apply AW.v
  apply Kx9
  apply Jq0
  apply J1
  rcases stk with _|⟨x8,stk8⟩
  ·have hNx:=hfi.pop0 (ver':=ver) (w0.missN hme) (by show 0<e.1.size+0;omega) (fun f=>Qb6 hme)
   have hmu:muF ⟨none,[],b,ver,cnt⟩ < muF ⟨some e,[],b,ver,cnt⟩:=by show 0<e.1.size+0;omega
   refine AW.rg ?_
   simp only [push_cast,simprocAttr,U6]
   refine CThen.by (Vd3 (m.length+5) (m.length+4) ver 0 (cnt:Int) [] _ (by (simp only [push_cast,simprocAttr])<;>rfl) (by (simp only [push_cast,simprocAttr])<;>rfl) (by omega) rfl) ?_
   simp only [push_cast,simprocAttr,U6]
   apply Jk2
   refine ⟨_,hNx,hmu,?_⟩
   try simp only [Ja9,Ja2,push_cast,simprocAttr,U6,Option.isSome_none,Option.isSome_some,qR,Int.natCast_add,Int.natCast_one,List.length_cons,List.length_nil]
   exact Weak.to (extra:=_) (by simp only [KS,simprocAttr,Option.isSome_none,Option.isSome_some,qR,Int.natCast_add,Int.natCast_one,List.length_cons,List.length_nil]) (by first|rfl|(simp only [List.append_assoc,List.cons_append,List.nil_append];rfl)) (by first|rfl|(simp [AV.below,CV.below];done)|(simp [AV.below,CV.below];omega)) (by exact MWf.app (hwf.grow (by simp)) (Ja0 (by simp [CV.below];omega) (Ja0 rfl (Ja0 rfl (Ja0 rfl (Ja0 (Jg6 _ _) (Ja0 (by simp [CV.below]) Jb3)))))))
  have hNx:=hfi.pop1 (ver':=ver) (w0.missN hme) (by show x8.1.size+Jz9 stk8<e.1.size+(x8.1.size+Jz9 stk8);omega) (fun f=>Qb6 hme)
  have hmu:muF ⟨some x8,stk8,b,ver,cnt+1⟩ < muF ⟨some e,x8::stk8,b,ver,cnt⟩:=by show x8.1.size+Jz9 stk8<e.1.size+(x8.1.size+Jz9 stk8);omega
  have hl8:(x8::stk8).length=(rtL stk8).length+1:=by rw [Kf0];rfl
  have hl9:=Kf0 stk8
  have hrc:=Ku7 x8 stk8
  have hl7:stk8.length<=1000000:=by have:(x8::stk8).length<=_:=hsl;simp only [List.length_cons] at this;omega
  refine AW.rg ?_
  simp only [push_cast,simprocAttr,U6,hl8,hrc,hl9]
  refine CThen.by (Kv8 (m.length+5) (m.length+4) ver (cnt:Int) (rtL stk8) x8.1.root _ (by (simp only [push_cast,simprocAttr,hl9])<;>rfl) (by (simp only [push_cast,simprocAttr,hrc])<;>rfl) (by omega) (by omega) (by omega)) ?_
  simp only [push_cast,simprocAttr,U6,hl8,hrc,hl9]
  apply Jk2
  refine ⟨_,hNx,hmu,?_⟩
  try simp only [Ja9,Ja2,push_cast,simprocAttr,U6,hl8,hrc,hl9,Option.isSome_none,Option.isSome_some,qR,Int.natCast_add,Int.natCast_one,List.length_cons,List.length_nil]
  exact Weak.to (extra:=_) (by simp only [KS,simprocAttr,Option.isSome_none,Option.isSome_some,qR,Int.natCast_add,Int.natCast_one,List.length_cons,List.length_nil]) (by first|rfl|(simp only [List.append_assoc,List.cons_append,List.nil_append];rfl)) (by first|rfl|(simp [AV.below,CV.below];done)|(simp [AV.below,CV.below];omega)) (by exact MWf.app (hwf.grow (by simp)) (Ja0 (by simp [CV.below];omega) (Ja0 rfl (Ja0 rfl (Ja0 rfl (Ja0 (Jg6 _ _) (Ja0 (by simp [CV.below]) Jb3)))))))
 have hsn:sq=none:=by cases sq with
   | none=>rfl
   | some _=>cases h35
 subst hsn
 have hstk:stk=[]:=hfi.z rfl
 subst hstk
 have hbe:b=Jg8 (Hq r mv near far) n:=hfi.w.all hop
 have hTe:cnt=T:=by
   obtain ⟨f,_,h2⟩:=hfi.k
   have h2':cnt+Jz5 nds o r mv near far f [] b=T+0:=h2
   rw [Vr6] at h2';omega
 rw [hbe,hTe]
 apply AW.v
 apply Kx9
 apply Kx9
 apply Jq0
 apply J0
 refine AW.d [.rd 0,.val,.val,.val,.val,.rw 0,.wr,.val,.val] fol U5 Tru ?_
 exact AW.ret (hQ _ _ _ (RetP.z hwf Tru))
theorem Vt7 (r:RY)(mv:Nat->MV)(sb sv n:Nat)(near far:Int)(m:Ja1)(h0:n=0):Ctr Tryz.prog 50 [.agg [.nils,.nils,.sl sb sv 0 n],.agg (ryC r),.one (.int .i64 near),.one (.int .i64 far)] m (.tup [(true,htC (Jf4 r mv (Jg8 (Hq r mv near far) n))),(false,[.bool (Jg8 (Hq r mv near far) n).isSome]),(false,[.int .i64 ((0:Nat):Int)])]) m:=by
 refine Ctr.en Tryz.func50 [.cell 8 165,.tmp 9,.tmp 10] 124 fun hwf Q hQ=>?_
 subst h0
 have hv:htC (Jf4 r mv (Jg8 (Hq r mv near far) 0))=[.int .i64 0,.int .i64 0,.int .i64 0,.int .i64 0,.int .i64 0,.int .i64 0,.int .i64 0,.int .i64 0]:=rfl
 have hv2:(Jg8 (Hq r mv near far) 0).isSome=false:=rfl
 rw [hv,hv2] at hQ
 have U16:=ca2 @Jh1 @Ja5
 exact AW.f U16 Tru
theorem Xo2 (mv:Nat->MV)(nb nv ob ov sb sv n:Nat)(m:Ja1)(h0:0<n)(hn:n<=400000)(hnb:∃ k ez,m[nb]?=some ⟨k,255,nv,ez,ndL (Ji4 (prM mv) n).2⟩)(hob:∃ k ez,m[ob]?=some ⟨k,3,ov,ez,iC (Ji4 (prM mv) n).1⟩)(hsb:∃ k ez,m[sb]?=some ⟨k,204,sv,ez,Jb2 n (mF mv)⟩):∃ TF:RY->Int->Int->Nat,∀ (L:Ja1) (r:RY) (near far:Int),Ctr Tryz.prog 50 [.agg [.sl nb nv 0 (Ji4 (prM mv) n).2.length,.sl ob ov 0 n,.sl sb sv 0 n],.agg (ryC r),.one (.int .i64 near),.one (.int .i64 far)] (m++L) (.tup [(true,htC (Jf4 r mv (Jg8 (Hq r mv near far) n))),(false,[.bool (Jg8 (Hq r mv near far) n).isSome]),(false,[.int .i64 ((TF r near far:Nat):Int)])]) (m++L):=by
 obtain ⟨t,h1,h2,h3,h4,h5,h6⟩:=Vk8 (prM mv) h0
 refine ⟨fun r near far=>Jz5 (Ji4 (prM mv) n).2 (Ji4 (prM mv) n).1 r mv near far (2*n) [(t,0,n)] none,fun L r near far=>?_⟩
 exact Xo1 r mv nb nv ob ov sb sv n _ t _ _ near far (m++L) (by obtain ⟨k,e,q⟩:=hnb;exact ⟨k,e,Ja4 q L⟩) (by obtain ⟨k,e,q⟩:=hob;exact ⟨k,e,Ja4 q L⟩) (by obtain ⟨k,e,q⟩:=hsb;exact ⟨k,e,Ja4 q L⟩) hn (by omega) h1 h2 h3 rfl
def Jv4 (u v:Int):Int:=if 65536<Jb6 u+Jb6 v then 65536 - Jb6 u else Jb6 u
def Jw3 (u v:Int):Int:=if 65536<Jb6 u+Jb6 v then 65536 - Jb6 v else Jb6 v
noncomputable def Ke7 (P:PL)(u v:Int):V :=
 if P.kind=0 then Jd7 (P.P 0) (Jd8 (Jj6 u v) P.r)
 else Jd7 (Jd7 (Jd7 z0V (P.P 0)) (Jd8 (Ja8 (P.P 1) (P.P 0)) (Jv4 u v))) (Jd8 (Ja8 (P.P 2) (P.P 0)) (Jw3 u v))
structure TN where
 (d l:V) (g s:Bool)
def tnC (t:TN):List CV:=c3C t.d++(c3C t.l++[.bool t.g,.bool t.s])
def tn0:TN:=⟨fun _=>0,fun _=>0,false,false⟩
noncomputable def Jk1 (k ro:Int)(d n:V)(u v:Int):V:=if k=0 then Jk0 n u v else if k=1 then Jb5 (Ki4 d n) else Jb5 (Jd7 (Ki4 d n) (Jd8 (Jk0 n u v) ro))
noncomputable def Jq8 (k:Int)(c:V)(ro:Int)(d n:V)(u v:Int):TN :=
 if k≠0/\k≠1/\k≠2 then tn0 else if Je2 (Jk1 k ro d n u v) n<=0 then tn0 else ⟨Jk1 k ro d n u v,c,true,!(k ==0)⟩
structure KY where
 (sd fr px sm:Int)
noncomputable def KY.u (k:KY)(i:Int):Int:=Qg8 k.sd k.fr k.px k.sm i
def kyC (k:KY):List CV:=Jn1 k.sd k.fr k.px k.sm
structure WD where
 (mv:Nat->MV) (n:Nat) (kd:Nat->Int) (cl:Nat->V) (ro:Nat->Int) (lm:List Nat) (sky:V) (dp:Nat)
noncomputable def Js2 (w:WD)(r:RY)(near far:Int):Option (Int × Nat):=Jg8 (Hq r w.mv near far) w.n
noncomputable def Qb9 (w:WD)(k:KY)(d:Int):Nat:=w.lm.getD (Jo7 k.sd k.fr k.px k.sm d (w.lm.length:Int)).toNat 0
noncomputable def Qb8 (w:WD)(k:KY)(d:Int)(at':Int):V:=Ke7 (atM (w.mv (Qb9 w k d)) at') (k.u (d+1)) (k.u (d+2))
noncomputable def Xm7 (w:WD)(k:KY)(d:Int)(h:HT)(at':Int):Option (Int × Nat):=Js2 w ⟨h.p,Jb5 (Ja8 (Qb8 w k d at') h.p),at'⟩ 1024 (Kb7 (Ja8 (Qb8 w k d at') h.p))
def Xy8 (i:Nat):Option (Int × Nat)->Bool
 | none=>false
 | some (_,j)=>!(j ==i)
noncomputable def Jm4 (w:WD)(k:KY)(d:Int)(h:HT)(hi:Nat)(at':Int):V :=
 if w.lm=[] then z0V else if Qb9 w k d=hi then z0V else if Jr7 h.p h.n (Qb8 w k d at')=0 then z0V else
  if Xy8 (Qb9 w k d) (Xm7 w k d h at')=true then z0V else Jd8 (Jd9 (w.cl hi) (w.cl (Qb9 w k d))) (Jd3 (Jr7 h.p h.n (Qb8 w k d at')) (ofI (w.lm.length:Int)))
structure SN where
 (li:V) (dep:Int) (no po ba:V) (sh pt:Int)
def snC (s:SN):List CV:=c3C s.li++(.int .i64 s.dep::(c3C s.no++(c3C s.po++(c3C s.ba++[.int .i64 s.sh,.int .i64 s.pt]))))
theorem Jx3 (s:SN):snC s=[.int .i64 (s.li 0),.int .i64 (s.li 1),.int .i64 (s.li 2),.int .i64 (s.dep),.int .i64 (s.no 0),.int .i64 (s.no 1),.int .i64 (s.no 2),.int .i64 (s.po 0),.int .i64 (s.po 1),.int .i64 (s.po 2),.int .i64 (s.ba 0),.int .i64 (s.ba 1),.int .i64 (s.ba 2),.int .i64 (s.sh),.int .i64 (s.pt)]:=rfl
structure TS where
 (s:SN) (w:V) (sharp:Bool) (r:RY)
noncomputable def Kd6 (w:WD)(r:RY)(t:Int)(i:Nat):HT:=⟨t,(i:Int),Je3 r t,Jj1 r (atM (w.mv i) r.part) t⟩
noncomputable def Jv2 (w:WD)(b:Nat)(s:SN)(h:HT)(i:Nat):SN:=if b=0 then ⟨s.li,h.t,h.n,h.p,w.cl i,(i:Int),s.pt⟩ else s
def SN.add (s:SN)(l:V):SN:=⟨Jd7 s.li l,s.dep,s.no,s.po,s.ba,s.sh,s.pt⟩
noncomputable def liS (w:WD)(k:KY)(d:Int)(s:TS)(sn:SN)(h:HT)(i:Nat):SN:=if w.kd i=0 then sn.add (Jd9 s.w (Jm4 w k d h i sn.pt)) else sn
noncomputable def Kb8 (w:WD)(k:KY)(d:Int)(s:TS)(h:HT)(i:Nat):TN:=Jq8 (w.kd i) (w.cl i) (w.ro i) s.r.d h.n (k.u (d+3)) (k.u (d+4))
noncomputable def Js8 (w:WD)(k:KY)(b:Nat)(d:Int)(s:TS):SN ⊕ TS :=
 match Js2 w s.r 1024 2147483648 with
 | none=>.inl (s.s.add (Jd9 s.w w.sky))
 | some (t,i) =>
  if w.kd i=3 then .inl (if s.sharp=true then (Jv2 w b s.s (Kd6 w s.r t i) i).add (Jd9 s.w (w.cl i)) else Jv2 w b s.s (Kd6 w s.r t i) i)
  else if (Kb8 w k d s (Kd6 w s.r t i) i).g=false then .inl (liS w k d s (Jv2 w b s.s (Kd6 w s.r t i) i) (Kd6 w s.r t i) i)
  else if b=0 then .inr ⟨liS w k d s (Jv2 w b s.s (Kd6 w s.r t i) i) (Kd6 w s.r t i) i,Jd9 s.w (Kb8 w k d s (Kd6 w s.r t i) i).l,(Kb8 w k d s (Kd6 w s.r t i) i).s,⟨(Kd6 w s.r t i).p,(Kb8 w k d s (Kd6 w s.r t i) i).d,s.s.pt⟩⟩
  else if Kw0 (Jd9 s.w (Kb8 w k d s (Kd6 w s.r t i) i).l)<=Jb6 (k.u (d+5)) then .inl (liS w k d s (Jv2 w b s.s (Kd6 w s.r t i) i) (Kd6 w s.r t i) i)
  else .inr ⟨liS w k d s (Jv2 w b s.s (Kd6 w s.r t i) i) (Kd6 w s.r t i) i,Jn4 (Jd9 s.w (Kb8 w k d s (Kd6 w s.r t i) i).l) (k.u (d+5)),(Kb8 w k d s (Kd6 w s.r t i) i).s,⟨(Kd6 w s.r t i).p,(Kb8 w k d s (Kd6 w s.r t i) i).d,s.s.pt⟩⟩
noncomputable def Jr5 (w:WD)(k:KY):Nat->Nat->TS->SN
 | 0,_,s=>s.s
 | f+1,b,s=>match Js8 w k b (3+8*(b:Int)) s with
  | .inl x=>x
  | .inr s'=>Jr5 w k f (b+1) s'
theorem Ky4 {w:WD}{k:KY}{b:Nat}{s:TS}{n:Nat}(h:n<=b):Jr5 w k (n - b) b s=s.s:=by
 rw [show n - b=0 by omega];rfl
theorem Jj7 {w:WD}{k:KY}{b:Nat}{s:TS}{n:Nat}{x:SN}(hb:b<n)(h:Js8 w k b (3+8*(b:Int)) s=.inl x):Jr5 w k (n - b) b s=x:=by
 rw [show n - b=(n - (b+1))+1 by omega]
 show (match Js8 w k b (3+8*(b:Int)) s with | .inl x=>x | .inr s'=>_)=x
 rw [h]
theorem Kc0 {w:WD}{k:KY}{b:Nat}{s s':TS}{n:Nat}(hb:b<n)(h:Js8 w k b (3+8*(b:Int)) s=.inr s'):Jr5 w k (n - b) b s=Jr5 w k (n - (b+1)) (b+1) s':=by
 rw [show n - b=(n - (b+1))+1 by omega]
 show (match Js8 w k b (3+8*(b:Int)) s with | .inl x=>x | .inr s'=>_)=_
 rw [h]
section
variable {w:WD}{k:KY}{b:Nat}{d:Int}{s:TS}{t:Int}{i:Nat}{h:HT}{sn1 sn2:SN}{T:TN}
theorem Ky7 (hF:Js2 w s.r 1024 2147483648=none):Js8 w k b d s=.inl (s.s.add (Jd9 s.w w.sky)):=by unfold Js8;rw [hF]
theorem Ky8 (hF:Js2 w s.r 1024 2147483648=some (t,i))(hh:Kd6 w s.r t i=h)(h1:Jv2 w b s.s h i=sn1)(h3:w.kd i=3)(hs:s.sharp=true):Js8 w k b d s=.inl (sn1.add (Jd9 s.w (w.cl i))):=by
 subst hh h1
 unfold Js8;rw [hF];dsimp only;rw [if_pos h3,if_pos hs]
theorem Ky9 (hF:Js2 w s.r 1024 2147483648=some (t,i))(hh:Kd6 w s.r t i=h)(h1:Jv2 w b s.s h i=sn1)(h3:w.kd i=3)(hs:s.sharp=false):Js8 w k b d s=.inl sn1:=by
 subst hh h1
 unfold Js8;rw [hF];dsimp only;rw [if_pos h3,if_neg (by rw [hs];decide)]
theorem Ky6 (hF:Js2 w s.r 1024 2147483648=some (t,i))(hh:Kd6 w s.r t i=h)(h1:Jv2 w b s.s h i=sn1)(h2:liS w k d s sn1 h i=sn2)(hT:Kb8 w k d s h i=T)(h3:¬w.kd i=3)(hg:T.g=false):Js8 w k b d s=.inl sn2:=by
 subst hh h1 h2 hT
 unfold Js8;rw [hF];dsimp only;rw [if_neg h3,if_pos hg]
theorem Qi7 (hF:Js2 w s.r 1024 2147483648=some (t,i))(hh:Kd6 w s.r t i=h)(h1:Jv2 w b s.s h i=sn1)(h2:liS w k d s sn1 h i=sn2)(hT:Kb8 w k d s h i=T)(h3:¬w.kd i=3)(hg:T.g=true)(hb:b=0):Js8 w k b d s=.inr ⟨sn2,Jd9 s.w T.l,T.s,⟨h.p,T.d,s.s.pt⟩⟩:=by
 subst hh h1 h2 hT
 unfold Js8;rw [hF];dsimp only;rw [if_neg h3,if_neg (by rw [hg];decide),if_pos hb]
theorem Kz0 (hF:Js2 w s.r 1024 2147483648=some (t,i))(hh:Kd6 w s.r t i=h)(h1:Jv2 w b s.s h i=sn1)(h2:liS w k d s sn1 h i=sn2)(hT:Kb8 w k d s h i=T)(h3:¬w.kd i=3)(hg:T.g=true)(hb:¬b=0)(hl:Kw0 (Jd9 s.w T.l)<=Jb6 (k.u (d+5))):Js8 w k b d s=.inl sn2:=by
 subst hh h1 h2 hT
 unfold Js8;rw [hF];dsimp only;rw [if_neg h3,if_neg (by rw [hg];decide),if_neg hb,if_pos hl]
theorem Qx9 (hF:Js2 w s.r 1024 2147483648=some (t,i))(hh:Kd6 w s.r t i=h)(h1:Jv2 w b s.s h i=sn1)(h2:liS w k d s sn1 h i=sn2)(hT:Kb8 w k d s h i=T)(h3:¬w.kd i=3)(hg:T.g=true)(hb:¬b=0)(hl:¬Kw0 (Jd9 s.w T.l)<=Jb6 (k.u (d+5))):Js8 w k b d s=.inr ⟨sn2,Jn4 (Jd9 s.w T.l) (k.u (d+5)),T.s,⟨h.p,T.d,s.s.pt⟩⟩:=by
 subst hh h1 h2 hT
 unfold Js8;rw [hF];dsimp only;rw [if_neg h3,if_neg (by rw [hg];decide),if_neg hb,if_neg hl]
end
def Jr2 (s:SC):Nat->List Nat
 | 0=>[]
 | i+1=>if glB s i then Jr2 s i++[i] else Jr2 s i
theorem Jy0 (s:SC):∀ n,iL (Jm3 (glB s) n)=iC (Jr2 s n)
 | 0=>rfl
 | n+1=>by
  have ih:=Jy0 s n
  show iL (if glB s n then Jm3 (glB s) n++[(n:Int)] else Jm3 (glB s) n)=iC (if glB s n then Jr2 s n++[n] else Jr2 s n)
  split
  ·rw [<-Jy1,<-ih];unfold iL;rw [List.map_append];rfl
  exact ih
theorem Kd4 (s:SC)(n:Nat):(Jm3 (glB s) n).length=(Jr2 s n).length:=by
 have h:=congrArg List.length (Jy0 s n)
 rw [Jg5] at h
 have:(iL (Jm3 (glB s) n)).length=(Jm3 (glB s) n).length:=by unfold iL;rw [List.length_map]
 omega
theorem Kw3 (s:SC):∀ (n:Nat) (i:Nat),i ∈ Jr2 s n->i<n
 | 0,_,h=>by cases h
 | n+1,i,h=>by
  have ih:=Kw3 s n i
  have h':i ∈ (if glB s n then Jr2 s n++[n] else Jr2 s n):=h
  split at h'
  ·rcases List.mem_append.1 h' with h'|h'
   ·have:=ih h';omega
   have:i=n:=by simpa using h'
   omega
  have:=ih h';omega
noncomputable def Jd1 (s:SC)(f:Int):WD:=⟨mvS s f,s.nx,fun i=>s.pk (s.xp i).toNat,fun i=>s.pc (s.xp i).toNat,fun i=>s.pr (s.xp i).toNat,Jr2 s s.nx,s.sk,s.dp.toNat⟩
def Xa0 (s:SC)(f x y sm:Int):KY:=⟨s.sd,f,y*s.w+x,sm⟩
def Qe6 (pt:Int):SN:=⟨fun _=>0,2147483648,fun _=>0,fun _=>0,fun _=>0,-1,pt⟩
theorem Xu7 (P:PL)(u v:Int)(m:Ja1)(hk:P.kind=0):Ctr Tryz.prog 131 [.agg (plC P),.one (.int .i64 u),.one (.int .i64 v)] m (.agg (c3C (Ke7 P u v))) m:=by
 refine Ctr.en Tryz.func131 [.cell 6 59] 55 fun hwf Q hQ=>?_
 have hv:Ke7 P u v=Jd7 (P.P 0) (Jd8 (Jj6 u v) P.r):=if_pos hk
 rw [hv] at hQ
 have hkb:(P.kind ==0)=true:=beq_iff_eq.2 hk
 have U1:=ca3 @Jr0 @Ja5 hkb
 exact AW.fd [[.val,.val,.rd 0,.val,.val,.ext,.val,.rd 0,.ext,.ext,.wr]] U1 (ca3 (Qg2 u v) (Jv3 (Jj6 u v) P.r) (Qh6 (P.P 0) (Jd8 (Jj6 u v) P.r)))
theorem Xu8 (P:PL)(u v:Int)(m:Ja1)(hk:¬P.kind=0):Ctr Tryz.prog 131 [.agg (plC P),.one (.int .i64 u),.one (.int .i64 v)] m (.agg (c3C (Ke7 P u v))) m:=by
 refine Ctr.en Tryz.func131 [.cell 6 59] 55 fun hwf Q hQ=>?_
 obtain ⟨D,hD⟩:∃ D,D=Jd7 (Jd7 (Jd7 z0V (P.P 0)) (Jd8 (Ja8 (P.P 1) (P.P 0)) (Jv4 u v))) (Jd8 (Ja8 (P.P 2) (P.P 0)) (Jw3 u v)):=⟨_,rfl⟩
 have hv:Ke7 P u v=D:=by rw [hD];exact if_neg hk
 rw [hv] at hQ
 have hkb:(P.kind ==0)=false:=by simpa using hk
 have b1:=Jt5 u
 have b2:=Jt5 v
 have w0:IntKind.i64.wrap (Jb6 u+Jb6 v)=Jb6 u+Jb6 v:=wi (by omega)
 have w1:IntKind.i64.wrap (65536 - Jb6 u)=65536 - Jb6 u:=wi (by omega)
 have w2:IntKind.i64.wrap (65536 - Jb6 v)=65536 - Jb6 v:=wi (by omega)
 have U2:=ca4 @Jr0 @Ja5 hkb (ca3 w0 w1 w2)
 refine AW.w 9 U2 Kj5 fun K J0=>?_
 refine AW.condJ rfl [3,6] [(1,.one (.int .i64 (Jv4 u v))),(2,.one (.int .i64 (Jw3 u v)))] [] (fun h27=>?_) (fun h27=>?_) ?_
 ·have hA:Jv4 u v=65536 - Jb6 u:=if_pos (of_decide_eq_true h27)
  have hB:Jw3 u v=65536 - Jb6 v:=if_pos (of_decide_eq_true h27)
  refine AW.w 1 U2 Tru ?_
  try simp only [Ja9,Ja2,push_cast,simprocAttr,U2,hA,hB]
  exact Weak.same (by simp only [KS,simprocAttr,hA,hB]) (by first|rfl|simp only [KS,simprocAttr,hA,hB])
 ·have hA:Jv4 u v=Jb6 u:=if_neg (of_decide_eq_false h27)
  have hB:Jw3 u v=Jb6 v:=if_neg (of_decide_eq_false h27)
  refine AW.w 1 Tru Tru ?_
  try simp only [Ja9,Ja2,push_cast,simprocAttr,U2,hA,hB]
  exact Weak.same (by simp only [KS,simprocAttr,hA,hB]) (by first|rfl|simp only [KS,simprocAttr,hA,hB])
 try simp only [Ja9,Ja2,push_cast,simprocAttr,U2]
 apply J0
 refine AW.q fun K J0=>?_
 refine AW.draw [.val,.val,.rd 0,.val,.val,.rd 0,.val,.val,.rd 0,.ext,.val,.ext,.val,.val,.rd 0,.val,.val,.rd 0,.ext,.val,.ext,.ext,.ext,.wr] fol (by decide) (by kernel_rfl) ?_
 simp only [push_cast,simprocAttr,U2]
 refine DCall.z (Jh4 (P.P 1) (P.P 0) _) ?_
 simp only [push_cast,simprocAttr,U2]
 refine DCall.z (Jv3 (Ja8 (P.P 1) (P.P 0)) (Jv4 u v) _) ?_
 simp only [push_cast,simprocAttr,U2]
 refine DCall.z (Jh4 (P.P 2) (P.P 0) _) ?_
 simp only [push_cast,simprocAttr,U2]
 refine DCall.z (Jv3 (Ja8 (P.P 2) (P.P 0)) (Jw3 u v) _) ?_
 simp only [push_cast,simprocAttr,U2]
 refine DExt.by (by first|rfl|exact (List.append_nil _).symm|(simp only [List.append_assoc,List.cons_append,List.nil_append];rfl)) ?_
 simp only [push_cast,simprocAttr,U2]
 refine DCall.z ((by have h9:=fun M r9 q=>Qe3 r9 0 (P.P 0 0) (P.P 0 1) (P.P 0 2) ((Jd8 (Ja8 (P.P 1) (P.P 0)) (Jv4 u v)) 0) ((Jd8 (Ja8 (P.P 1) (P.P 0)) (Jv4 u v)) 1) ((Jd8 (Ja8 (P.P 1) (P.P 0)) (Jv4 u v)) 2) ((Jd8 (Ja8 (P.P 2) (P.P 0)) (Jw3 u v)) 0) ((Jd8 (Ja8 (P.P 2) (P.P 0)) (Jw3 u v)) 1) ((Jd8 (Ja8 (P.P 2) (P.P 0)) (Jw3 u v)) 2) M q;have e9:([.int .i64 (Jc7 (Jc7 (Jc7 0 (P.P 0 0)) ((Jd8 (Ja8 (P.P 1) (P.P 0)) (Jv4 u v)) 0)) ((Jd8 (Ja8 (P.P 2) (P.P 0)) (Jw3 u v)) 0)),.int .i64 (Jc7 (Jc7 (Jc7 0 (P.P 0 1)) ((Jd8 (Ja8 (P.P 1) (P.P 0)) (Jv4 u v)) 1)) ((Jd8 (Ja8 (P.P 2) (P.P 0)) (Jw3 u v)) 1)),.int .i64 (Jc7 (Jc7 (Jc7 0 (P.P 0 2)) ((Jd8 (Ja8 (P.P 1) (P.P 0)) (Jv4 u v)) 2)) ((Jd8 (Ja8 (P.P 2) (P.P 0)) (Jw3 u v)) 2))]:List CV)=c3C D:=(by rw [hD];rfl);rw [e9] at h9;exact h9 _ _ ⟨.grow,3,by simp only [push_cast,simprocAttr]⟩)) ?_
 simp only [push_cast,simprocAttr,U2]
 exact AW.f Tru Tru
theorem Xf1 (P:PL)(u v:Int)(m:Ja1)(hk:P.kind=0):Ctr Tryz.prog 150 [.agg (plC P),.one (.int .i64 u),.one (.int .i64 v)] m (.agg (c3C (Ke7 P u v))) m:=by
 refine Ctr.en Tryz.func150 [.cell 6 54] 60 fun hwf Q hQ=>?_
 have hv:Ke7 P u v=Jd7 (P.P 0) (Jd8 (Jj6 u v) P.r):=if_pos hk
 rw [hv] at hQ
 have hkb:(P.kind ==0)=true:=beq_iff_eq.2 hk
 have U3:=ca3 @Jr0 @Ja5 hkb
 exact AW.fd [[.val,.val,.rd 0,.val,.val,.ext,.val,.rd 0,.ext,.ext,.wr]] U3 (ca3 (Kv3 u v) (Jp7 (Jj6 u v) P.r) (Ju3 (P.P 0) (Jd8 (Jj6 u v) P.r)))
theorem Xf2 (P:PL)(u v:Int)(m:Ja1)(hk:¬P.kind=0):Ctr Tryz.prog 150 [.agg (plC P),.one (.int .i64 u),.one (.int .i64 v)] m (.agg (c3C (Ke7 P u v))) m:=by
 refine Ctr.en Tryz.func150 [.cell 6 54] 60 fun hwf Q hQ=>?_
 obtain ⟨D,hD⟩:∃ D,D=Jd7 (Jd7 (Jd7 z0V (P.P 0)) (Jd8 (Ja8 (P.P 1) (P.P 0)) (Jv4 u v))) (Jd8 (Ja8 (P.P 2) (P.P 0)) (Jw3 u v)):=⟨_,rfl⟩
 have hv:Ke7 P u v=D:=by rw [hD];exact if_neg hk
 rw [hv] at hQ
 have hkb:(P.kind ==0)=false:=by simpa using hk
 have b1:=Jt5 u
 have b2:=Jt5 v
 have w0:IntKind.i64.wrap (Jb6 u+Jb6 v)=Jb6 u+Jb6 v:=wi (by omega)
 have w1:IntKind.i64.wrap (65536 - Jb6 u)=65536 - Jb6 u:=wi (by omega)
 have w2:IntKind.i64.wrap (65536 - Jb6 v)=65536 - Jb6 v:=wi (by omega)
 have U4:=ca4 @Jr0 @Ja5 hkb (ca3 w0 w1 w2)
 refine AW.w 10 U4 Jv5 fun K J0=>?_
 refine AW.condJ rfl [3,6] [(1,.one (.int .i64 (Jv4 u v))),(2,.one (.int .i64 (Jw3 u v)))] [] (fun h28=>?_) (fun h28=>?_) ?_
 ·have hA:Jv4 u v=65536 - Jb6 u:=if_pos (of_decide_eq_true h28)
  have hB:Jw3 u v=65536 - Jb6 v:=if_pos (of_decide_eq_true h28)
  refine AW.w 2 U4 Tru ?_
  try simp only [Ja9,Ja2,push_cast,simprocAttr,U4,hA,hB]
  exact Weak.same (by simp only [KS,simprocAttr,hA,hB]) (by first|rfl|simp only [KS,simprocAttr,hA,hB])
 ·have hA:Jv4 u v=Jb6 u:=if_neg (of_decide_eq_false h28)
  have hB:Jw3 u v=Jb6 v:=if_neg (of_decide_eq_false h28)
  refine AW.w 1 Tru Tru ?_
  try simp only [Ja9,Ja2,push_cast,simprocAttr,U4,hA,hB]
  exact Weak.same (by simp only [KS,simprocAttr,hA,hB]) (by first|rfl|simp only [KS,simprocAttr,hA,hB])
 try simp only [Ja9,Ja2,push_cast,simprocAttr,U4]
 refine AW.wd [[.rd 0,.val,.val,.rd 0,.val,.val,.rd 0,.ext,.val,.ext,.ext,.wr]] 3 U4 (ca4 (Ju3 z0V (P.P 0)) (Je8 (P.P 1) (P.P 0)) (Jp7 (Ja8 (P.P 1) (P.P 0)) (Jv4 u v)) (Ju3 (Jd7 z0V (P.P 0)) (Jd8 (Ja8 (P.P 1) (P.P 0)) (Jv4 u v)))) ?_
 have q_1:=Ju3 (Jd7 (Jd7 z0V (P.P 0)) (Jd8 (Ja8 (P.P 1) (P.P 0)) (Jv4 u v))) (Jd8 (Ja8 (P.P 2) (P.P 0)) (Jw3 u v))
 rw [<-hD] at q_1
 exact AW.fd [[.rd 0,.val,.val,.rd 0,.val,.val,.rd 0,.ext,.val,.ext,.ext,.wr]] U4 (ca3 (Je8 (P.P 2) (P.P 0)) (Jp7 (Ja8 (P.P 2) (P.P 0)) (Jw3 u v)) q_1)
theorem Xu9 (P:PL)(u v:Int)(m:Ja1):Ctr Tryz.prog 131 [.agg (plC P),.one (.int .i64 u),.one (.int .i64 v)] m (.agg (c3C (Ke7 P u v))) m:=by
 by_cases hk:P.kind=0
 ·exact Xu7 P u v m hk
 exact Xu8 P u v m hk
theorem Xf3 (P:PL)(u v:Int)(m:Ja1):Ctr Tryz.prog 150 [.agg (plC P),.one (.int .i64 u),.one (.int .i64 v)] m (.agg (c3C (Ke7 P u v))) m:=by
 by_cases hk:P.kind=0
 ·exact Xf1 P u v m hk
 exact Xf2 P u v m hk
theorem Yd2 (k:Int)(c:V)(ro:Int)(d n:V)(u v:Int)(m:Ja1)(hk:k=0)(g:Je2 (Jk1 k ro d n u v) n<=0):Ctr Tryz.prog 55 [.agg [.int .i64 k,.int .i64 (c 0),.int .i64 (c 1),.int .i64 (c 2),.int .i64 ro],.agg (c3C d),.agg (c3C n),.one (.int .i64 u),.one (.int .i64 v)] m (.agg (tnC (Jq8 k c ro d n u v))) m:=by
 refine Ctr.en Tryz.func55 [.cell 10 172] 62 fun hwf Q hQ=>?_
 obtain ⟨D,hD⟩:∃ D,D=Jk0 n u v:=⟨_,rfl⟩
 have hdd:Jk1 k ro d n u v=D:=by rw [hD,hk];rfl
 rw [hdd] at g
 have hv:tnC (Jq8 k c ro d n u v)=[.int .i64 0,.int .i64 0,.int .i64 0,.int .i64 0,.int .i64 0,.int .i64 0,.bool false,.bool false]:=by
   unfold Jq8
   rw [if_neg (by omega),hdd,if_pos g]
   rfl
 rw [hv] at hQ
 have hg9:¬0<Je2 D n:=by omega
 subst hk
 have U5:=ca3 @Ja5 g hg9
 refine AW.w 7 U5 Tru fun K J0=>?_
 have q_2:=Qo8 n u v
 rw [<-hD] at q_2
 exact AW.f U5 (ca2 q_2 (Jf0 D n))
theorem Yd3 (k:Int)(c:V)(ro:Int)(d n:V)(u v:Int)(m:Ja1)(hk:k=0)(g:¬Je2 (Jk1 k ro d n u v) n<=0):Ctr Tryz.prog 55 [.agg [.int .i64 k,.int .i64 (c 0),.int .i64 (c 1),.int .i64 (c 2),.int .i64 ro],.agg (c3C d),.agg (c3C n),.one (.int .i64 u),.one (.int .i64 v)] m (.agg (tnC (Jq8 k c ro d n u v))) m:=by
 refine Ctr.en Tryz.func55 [.cell 10 172] 62 fun hwf Q hQ=>?_
 obtain ⟨D,hD⟩:∃ D,D=Jk0 n u v:=⟨_,rfl⟩
 have hdd:Jk1 k ro d n u v=D:=by rw [hD,hk];rfl
 rw [hdd] at g
 have hv:tnC (Jq8 k c ro d n u v)=[.int .i64 (D 0),.int .i64 (D 1),.int .i64 (D 2),.int .i64 (c 0),.int .i64 (c 1),.int .i64 (c 2),.bool true,.bool false]:=by
   unfold Jq8
   rw [if_neg (by omega),hdd,if_neg g]
   rw [hk];rfl
 rw [hv] at hQ
 have hg9:0<Je2 D n:=by omega
 subst hk
 have U6:=ca3 @Ja5 g hg9
 refine AW.w 7 U6 Tru fun K J0=>?_
 have q_3:=Qo8 n u v
 rw [<-hD] at q_3
 exact AW.f U6 (ca2 q_3 (Jf0 D n))
theorem Yd0 (k:Int)(c:V)(ro:Int)(d n:V)(u v:Int)(m:Ja1)(hk:k=1)(g:Je2 (Jk1 k ro d n u v) n<=0):Ctr Tryz.prog 55 [.agg [.int .i64 k,.int .i64 (c 0),.int .i64 (c 1),.int .i64 (c 2),.int .i64 ro],.agg (c3C d),.agg (c3C n),.one (.int .i64 u),.one (.int .i64 v)] m (.agg (tnC (Jq8 k c ro d n u v))) m:=by
 refine Ctr.en Tryz.func55 [.cell 10 172] 62 fun hwf Q hQ=>?_
 obtain ⟨D,hD⟩:∃ D,D=Jb5 (Ki4 d n):=⟨_,rfl⟩
 have hdd:Jk1 k ro d n u v=D:=by rw [hD,hk];rfl
 rw [hdd] at g
 have hv:tnC (Jq8 k c ro d n u v)=[.int .i64 0,.int .i64 0,.int .i64 0,.int .i64 0,.int .i64 0,.int .i64 0,.bool false,.bool false]:=by
   unfold Jq8
   rw [if_neg (by omega),hdd,if_pos g]
   rfl
 rw [hv] at hQ
 have hg9:¬0<Je2 D n:=by omega
 subst hk
 have U7:=ca3 @Ja5 g hg9
 refine AW.w 9 U7 Tru fun K J0=>?_
 have q_4:=Jr4 (Ki4 d n)
 rw [<-hD] at q_4
 exact AW.f U7 (ca3 (Ki3 d n) q_4 (Jf0 D n))
theorem Yd1 (k:Int)(c:V)(ro:Int)(d n:V)(u v:Int)(m:Ja1)(hk:k=1)(g:¬Je2 (Jk1 k ro d n u v) n<=0):Ctr Tryz.prog 55 [.agg [.int .i64 k,.int .i64 (c 0),.int .i64 (c 1),.int .i64 (c 2),.int .i64 ro],.agg (c3C d),.agg (c3C n),.one (.int .i64 u),.one (.int .i64 v)] m (.agg (tnC (Jq8 k c ro d n u v))) m:=by
 refine Ctr.en Tryz.func55 [.cell 10 172] 62 fun hwf Q hQ=>?_
 obtain ⟨D,hD⟩:∃ D,D=Jb5 (Ki4 d n):=⟨_,rfl⟩
 have hdd:Jk1 k ro d n u v=D:=by rw [hD,hk];rfl
 rw [hdd] at g
 have hv:tnC (Jq8 k c ro d n u v)=[.int .i64 (D 0),.int .i64 (D 1),.int .i64 (D 2),.int .i64 (c 0),.int .i64 (c 1),.int .i64 (c 2),.bool true,.bool true]:=by
   unfold Jq8
   rw [if_neg (by omega),hdd,if_neg g]
   rw [hk];rfl
 rw [hv] at hQ
 have hg9:0<Je2 D n:=by omega
 subst hk
 have U8:=ca3 @Ja5 g hg9
 refine AW.w 9 U8 Tru fun K J0=>?_
 have q_5:=Jr4 (Ki4 d n)
 rw [<-hD] at q_5
 exact AW.f U8 (ca3 (Ki3 d n) q_5 (Jf0 D n))
theorem Yc8 (k:Int)(c:V)(ro:Int)(d n:V)(u v:Int)(m:Ja1)(hk:k=2)(g:Je2 (Jk1 k ro d n u v) n<=0):Ctr Tryz.prog 55 [.agg [.int .i64 k,.int .i64 (c 0),.int .i64 (c 1),.int .i64 (c 2),.int .i64 ro],.agg (c3C d),.agg (c3C n),.one (.int .i64 u),.one (.int .i64 v)] m (.agg (tnC (Jq8 k c ro d n u v))) m:=by
 refine Ctr.en Tryz.func55 [.cell 10 172] 62 fun hwf Q hQ=>?_
 obtain ⟨D,hD⟩:∃ D,D=Jb5 (Jd7 (Ki4 d n) (Jd8 (Jk0 n u v) ro)):=⟨_,rfl⟩
 have hdd:Jk1 k ro d n u v=D:=by rw [hD,hk];rfl
 rw [hdd] at g
 have hv:tnC (Jq8 k c ro d n u v)=[.int .i64 0,.int .i64 0,.int .i64 0,.int .i64 0,.int .i64 0,.int .i64 0,.bool false,.bool false]:=by
   unfold Jq8
   rw [if_neg (by omega),hdd,if_pos g]
   rfl
 rw [hv] at hQ
 have hg9:¬0<Je2 D n:=by omega
 subst hk
 have U9:=ca3 @Ja5 g hg9
 refine AW.wd [[.rd 0,.val,.val,.ext,.val,.rd 0,.ext,.fl,.wr]] 12 U9 (ca2 (Qo8 n u v) (Jv3 (Jk0 n u v) ro)) fun K J0=>?_
 have q_6:=Jr4 (Jd7 (Ki4 d n) (Jd8 (Jk0 n u v) ro))
 rw [<-hD] at q_6
 exact AW.fd [[.rd 0,.rd 0,.ext,.rd 0,.ext,.ext,.val,.wr,.val,.wr]] U9 (ca4 (Ki3 d n) (Qh6 (Ki4 d n) (Jd8 (Jk0 n u v) ro)) q_6 (Jf0 D n))
theorem Yc9 (k:Int)(c:V)(ro:Int)(d n:V)(u v:Int)(m:Ja1)(hk:k=2)(g:¬Je2 (Jk1 k ro d n u v) n<=0):Ctr Tryz.prog 55 [.agg [.int .i64 k,.int .i64 (c 0),.int .i64 (c 1),.int .i64 (c 2),.int .i64 ro],.agg (c3C d),.agg (c3C n),.one (.int .i64 u),.one (.int .i64 v)] m (.agg (tnC (Jq8 k c ro d n u v))) m:=by
 refine Ctr.en Tryz.func55 [.cell 10 172] 62 fun hwf Q hQ=>?_
 obtain ⟨D,hD⟩:∃ D,D=Jb5 (Jd7 (Ki4 d n) (Jd8 (Jk0 n u v) ro)):=⟨_,rfl⟩
 have hdd:Jk1 k ro d n u v=D:=by rw [hD,hk];rfl
 rw [hdd] at g
 have hv:tnC (Jq8 k c ro d n u v)=[.int .i64 (D 0),.int .i64 (D 1),.int .i64 (D 2),.int .i64 (c 0),.int .i64 (c 1),.int .i64 (c 2),.bool true,.bool true]:=by
   unfold Jq8
   rw [if_neg (by omega),hdd,if_neg g]
   rw [hk];rfl
 rw [hv] at hQ
 have hg9:0<Je2 D n:=by omega
 subst hk
 have U10:=ca3 @Ja5 g hg9
 refine AW.wd [[.rd 0,.val,.val,.ext,.val,.rd 0,.ext,.fl,.wr]] 12 U10 (ca2 (Qo8 n u v) (Jv3 (Jk0 n u v) ro)) fun K J0=>?_
 have q_7:=Jr4 (Jd7 (Ki4 d n) (Jd8 (Jk0 n u v) ro))
 rw [<-hD] at q_7
 exact AW.fd [[.rd 0,.rd 0,.ext,.rd 0,.ext,.ext,.val,.wr,.val,.wr]] U10 (ca4 (Ki3 d n) (Qh6 (Ki4 d n) (Jd8 (Jk0 n u v) ro)) q_7 (Jf0 D n))
theorem bnc_o (k:Int)(c:V)(ro:Int)(d n:V)(u v:Int)(m:Ja1)(hk:k≠0/\k≠1/\k≠2):Ctr Tryz.prog 55 [.agg [.int .i64 k,.int .i64 (c 0),.int .i64 (c 1),.int .i64 (c 2),.int .i64 ro],.agg (c3C d),.agg (c3C n),.one (.int .i64 u),.one (.int .i64 v)] m (.agg (tnC (Jq8 k c ro d n u v))) m:=by
 refine Ctr.en Tryz.func55 [.cell 10 172] 62 fun hwf Q hQ=>?_
 have hv:tnC (Jq8 k c ro d n u v)=[.int .i64 0,.int .i64 0,.int .i64 0,.int .i64 0,.int .i64 0,.int .i64 0,.bool false,.bool false]:=by
   unfold Jq8
   rw [if_pos hk];rfl
 rw [hv] at hQ
 have k0:(k ==0)=false:=by simpa using hk.1
 have k1:(k ==1)=false:=by simpa using hk.2.1
 have k2:(k ==2)=false:=by simpa using hk.2.2
 have U11:=ca4 @Ja5 k0 k1 k2
 exact AW.f U11 Tru
theorem bnc_c (k:Int)(c:V)(ro:Int)(d n:V)(u v:Int)(m:Ja1):Ctr Tryz.prog 55 [.agg [.int .i64 k,.int .i64 (c 0),.int .i64 (c 1),.int .i64 (c 2),.int .i64 ro],.agg (c3C d),.agg (c3C n),.one (.int .i64 u),.one (.int .i64 v)] m (.agg (tnC (Jq8 k c ro d n u v))) m:=by
 by_cases h0:k=0
 ·by_cases g:Je2 (Jk1 k ro d n u v) n<=0
  ·exact Yd2 k c ro d n u v m h0 g
  exact Yd3 k c ro d n u v m h0 g
 by_cases h1:k=1
 ·by_cases g:Je2 (Jk1 k ro d n u v) n<=0
  ·exact Yd0 k c ro d n u v m h1 g
  exact Yd1 k c ro d n u v m h1 g
 by_cases h2:k=2
 ·by_cases g:Je2 (Jk1 k ro d n u v) n<=0
  ·exact Yc8 k c ro d n u v m h2 g
  exact Yc9 k c ro d n u v m h2 g
 exact bnc_o k c ro d n u v m ⟨h0,h1,h2⟩
theorem Xj1 (k:Int)(c:V)(ro:Int)(d n:V)(u v:Int)(m:Ja1)(hk:k=0)(g:Je2 (Jk1 k ro d n u v) n<=0):Ctr Tryz.prog 64 [.agg [.int .i64 k,.int .i64 (c 0),.int .i64 (c 1),.int .i64 (c 2),.int .i64 ro],.agg (c3C d),.agg (c3C n),.one (.int .i64 u),.one (.int .i64 v)] m (.agg (tnC (Jq8 k c ro d n u v))) m:=by
 refine Ctr.en Tryz.func64 [.cell 10 189] 54 fun hwf Q hQ=>?_
 obtain ⟨D,hD⟩:∃ D,D=Jk0 n u v:=⟨_,rfl⟩
 have hdd:Jk1 k ro d n u v=D:=by rw [hD,hk];rfl
 rw [hdd] at g
 have hv:tnC (Jq8 k c ro d n u v)=[.int .i64 0,.int .i64 0,.int .i64 0,.int .i64 0,.int .i64 0,.int .i64 0,.bool false,.bool false]:=by
   unfold Jq8
   rw [if_neg (by omega),hdd,if_pos g]
   rfl
 rw [hv] at hQ
 have hg9:¬0<Je2 D n:=by omega
 subst hk
 have U12:=ca3 @Ja5 g hg9
 refine AW.w 5 U12 Tru fun K J0=>?_
 have q_8:=Kv5 n u v
 rw [<-hD] at q_8
 exact AW.f U12 (ca2 q_8 (Jc8 D n))
theorem Xj2 (k:Int)(c:V)(ro:Int)(d n:V)(u v:Int)(m:Ja1)(hk:k=0)(g:¬Je2 (Jk1 k ro d n u v) n<=0):Ctr Tryz.prog 64 [.agg [.int .i64 k,.int .i64 (c 0),.int .i64 (c 1),.int .i64 (c 2),.int .i64 ro],.agg (c3C d),.agg (c3C n),.one (.int .i64 u),.one (.int .i64 v)] m (.agg (tnC (Jq8 k c ro d n u v))) m:=by
 refine Ctr.en Tryz.func64 [.cell 10 189] 54 fun hwf Q hQ=>?_
 obtain ⟨D,hD⟩:∃ D,D=Jk0 n u v:=⟨_,rfl⟩
 have hdd:Jk1 k ro d n u v=D:=by rw [hD,hk];rfl
 rw [hdd] at g
 have hv:tnC (Jq8 k c ro d n u v)=[.int .i64 (D 0),.int .i64 (D 1),.int .i64 (D 2),.int .i64 (c 0),.int .i64 (c 1),.int .i64 (c 2),.bool true,.bool false]:=by
   unfold Jq8
   rw [if_neg (by omega),hdd,if_neg g]
   rw [hk];rfl
 rw [hv] at hQ
 have hg9:0<Je2 D n:=by omega
 subst hk
 have U13:=ca3 @Ja5 g hg9
 refine AW.w 5 U13 Tru fun K J0=>?_
 have q_9:=Kv5 n u v
 rw [<-hD] at q_9
 exact AW.f U13 (ca2 q_9 (Jc8 D n))
theorem Xi9 (k:Int)(c:V)(ro:Int)(d n:V)(u v:Int)(m:Ja1)(hk:k=1)(g:Je2 (Jk1 k ro d n u v) n<=0):Ctr Tryz.prog 64 [.agg [.int .i64 k,.int .i64 (c 0),.int .i64 (c 1),.int .i64 (c 2),.int .i64 ro],.agg (c3C d),.agg (c3C n),.one (.int .i64 u),.one (.int .i64 v)] m (.agg (tnC (Jq8 k c ro d n u v))) m:=by
 refine Ctr.en Tryz.func64 [.cell 10 189] 54 fun hwf Q hQ=>?_
 obtain ⟨D,hD⟩:∃ D,D=Jb5 (Ki4 d n):=⟨_,rfl⟩
 have hdd:Jk1 k ro d n u v=D:=by rw [hD,hk];rfl
 rw [hdd] at g
 have hv:tnC (Jq8 k c ro d n u v)=[.int .i64 0,.int .i64 0,.int .i64 0,.int .i64 0,.int .i64 0,.int .i64 0,.bool false,.bool false]:=by
   unfold Jq8
   rw [if_neg (by omega),hdd,if_pos g]
   rfl
 rw [hv] at hQ
 have hg9:¬0<Je2 D n:=by omega
 subst hk
 have U14:=ca3 @Ja5 g hg9
 refine AW.w 7 U14 Tru fun K J0=>?_
 have q_10:=Jm7 (Ki4 d n)
 rw [<-hD] at q_10
 exact AW.f U14 (ca3 (Kc6 d n) q_10 (Jc8 D n))
theorem Xj0 (k:Int)(c:V)(ro:Int)(d n:V)(u v:Int)(m:Ja1)(hk:k=1)(g:¬Je2 (Jk1 k ro d n u v) n<=0):Ctr Tryz.prog 64 [.agg [.int .i64 k,.int .i64 (c 0),.int .i64 (c 1),.int .i64 (c 2),.int .i64 ro],.agg (c3C d),.agg (c3C n),.one (.int .i64 u),.one (.int .i64 v)] m (.agg (tnC (Jq8 k c ro d n u v))) m:=by
 refine Ctr.en Tryz.func64 [.cell 10 189] 54 fun hwf Q hQ=>?_
 obtain ⟨D,hD⟩:∃ D,D=Jb5 (Ki4 d n):=⟨_,rfl⟩
 have hdd:Jk1 k ro d n u v=D:=by rw [hD,hk];rfl
 rw [hdd] at g
 have hv:tnC (Jq8 k c ro d n u v)=[.int .i64 (D 0),.int .i64 (D 1),.int .i64 (D 2),.int .i64 (c 0),.int .i64 (c 1),.int .i64 (c 2),.bool true,.bool true]:=by
   unfold Jq8
   rw [if_neg (by omega),hdd,if_neg g]
   rw [hk];rfl
 rw [hv] at hQ
 have hg9:0<Je2 D n:=by omega
 subst hk
 have U15:=ca3 @Ja5 g hg9
 refine AW.w 7 U15 Tru fun K J0=>?_
 have q_11:=Jm7 (Ki4 d n)
 rw [<-hD] at q_11
 exact AW.f U15 (ca3 (Kc6 d n) q_11 (Jc8 D n))
theorem Xi7 (k:Int)(c:V)(ro:Int)(d n:V)(u v:Int)(m:Ja1)(hk:k=2)(g:Je2 (Jk1 k ro d n u v) n<=0):Ctr Tryz.prog 64 [.agg [.int .i64 k,.int .i64 (c 0),.int .i64 (c 1),.int .i64 (c 2),.int .i64 ro],.agg (c3C d),.agg (c3C n),.one (.int .i64 u),.one (.int .i64 v)] m (.agg (tnC (Jq8 k c ro d n u v))) m:=by
 refine Ctr.en Tryz.func64 [.cell 10 189] 54 fun hwf Q hQ=>?_
 obtain ⟨D,hD⟩:∃ D,D=Jb5 (Jd7 (Ki4 d n) (Jd8 (Jk0 n u v) ro)):=⟨_,rfl⟩
 have hdd:Jk1 k ro d n u v=D:=by rw [hD,hk];rfl
 rw [hdd] at g
 have hv:tnC (Jq8 k c ro d n u v)=[.int .i64 0,.int .i64 0,.int .i64 0,.int .i64 0,.int .i64 0,.int .i64 0,.bool false,.bool false]:=by
   unfold Jq8
   rw [if_neg (by omega),hdd,if_pos g]
   rfl
 rw [hv] at hQ
 have hg9:¬0<Je2 D n:=by omega
 subst hk
 have U16:=ca3 @Ja5 g hg9
 refine AW.w 9 U16 Tru fun K J0=>?_
 have q_12:=Jm7 (Jd7 (Ki4 d n) (Jd8 (Jk0 n u v) ro))
 rw [<-hD] at q_12
 exact AW.fd [[.rd 0,.rd 0,.ext,.rd 0,.val,.val,.ext,.val,.rd 0,.ext,.ext,.ext,.wr]] U16 (ca4 (Kc6 d n) (Kv5 n u v) (Jp7 (Jk0 n u v) ro) (ca3 (Ju3 (Ki4 d n) (Jd8 (Jk0 n u v) ro)) q_12 (Jc8 D n)))
theorem Xi8 (k:Int)(c:V)(ro:Int)(d n:V)(u v:Int)(m:Ja1)(hk:k=2)(g:¬Je2 (Jk1 k ro d n u v) n<=0):Ctr Tryz.prog 64 [.agg [.int .i64 k,.int .i64 (c 0),.int .i64 (c 1),.int .i64 (c 2),.int .i64 ro],.agg (c3C d),.agg (c3C n),.one (.int .i64 u),.one (.int .i64 v)] m (.agg (tnC (Jq8 k c ro d n u v))) m:=by
 refine Ctr.en Tryz.func64 [.cell 10 189] 54 fun hwf Q hQ=>?_
 obtain ⟨D,hD⟩:∃ D,D=Jb5 (Jd7 (Ki4 d n) (Jd8 (Jk0 n u v) ro)):=⟨_,rfl⟩
 have hdd:Jk1 k ro d n u v=D:=by rw [hD,hk];rfl
 rw [hdd] at g
 have hv:tnC (Jq8 k c ro d n u v)=[.int .i64 (D 0),.int .i64 (D 1),.int .i64 (D 2),.int .i64 (c 0),.int .i64 (c 1),.int .i64 (c 2),.bool true,.bool true]:=by
   unfold Jq8
   rw [if_neg (by omega),hdd,if_neg g]
   rw [hk];rfl
 rw [hv] at hQ
 have hg9:0<Je2 D n:=by omega
 subst hk
 have U17:=ca3 @Ja5 g hg9
 refine AW.w 9 U17 Tru fun K J0=>?_
 have q_13:=Jm7 (Jd7 (Ki4 d n) (Jd8 (Jk0 n u v) ro))
 rw [<-hD] at q_13
 exact AW.fd [[.rd 0,.rd 0,.ext,.rd 0,.val,.val,.ext,.val,.rd 0,.ext,.ext,.ext,.wr]] U17 (ca4 (Kc6 d n) (Kv5 n u v) (Jp7 (Jk0 n u v) ro) (ca3 (Ju3 (Ki4 d n) (Jd8 (Jk0 n u v) ro)) q_13 (Jc8 D n)))
theorem Xw3 (k:Int)(c:V)(ro:Int)(d n:V)(u v:Int)(m:Ja1)(hk:k≠0/\k≠1/\k≠2):Ctr Tryz.prog 64 [.agg [.int .i64 k,.int .i64 (c 0),.int .i64 (c 1),.int .i64 (c 2),.int .i64 ro],.agg (c3C d),.agg (c3C n),.one (.int .i64 u),.one (.int .i64 v)] m (.agg (tnC (Jq8 k c ro d n u v))) m:=by
 refine Ctr.en Tryz.func64 [.cell 10 189] 54 fun hwf Q hQ=>?_
 have hv:tnC (Jq8 k c ro d n u v)=[.int .i64 0,.int .i64 0,.int .i64 0,.int .i64 0,.int .i64 0,.int .i64 0,.bool false,.bool false]:=by
   unfold Jq8
   rw [if_pos hk];rfl
 rw [hv] at hQ
 have k0:(k ==0)=false:=by simpa using hk.1
 have k1:(k ==1)=false:=by simpa using hk.2.1
 have k2:(k ==2)=false:=by simpa using hk.2.2
 have U18:=ca4 @Ja5 k0 k1 k2
 exact AW.f U18 Tru
theorem Xw4 (k:Int)(c:V)(ro:Int)(d n:V)(u v:Int)(m:Ja1):Ctr Tryz.prog 64 [.agg [.int .i64 k,.int .i64 (c 0),.int .i64 (c 1),.int .i64 (c 2),.int .i64 ro],.agg (c3C d),.agg (c3C n),.one (.int .i64 u),.one (.int .i64 v)] m (.agg (tnC (Jq8 k c ro d n u v))) m:=by
 by_cases h0:k=0
 ·by_cases g:Je2 (Jk1 k ro d n u v) n<=0
  ·exact Xj1 k c ro d n u v m h0 g
  exact Xj2 k c ro d n u v m h0 g
 by_cases h1:k=1
 ·by_cases g:Je2 (Jk1 k ro d n u v) n<=0
  ·exact Xi9 k c ro d n u v m h1 g
  exact Xj0 k c ro d n u v m h1 g
 by_cases h2:k=2
 ·by_cases g:Je2 (Jk1 k ro d n u v) n<=0
  ·exact Xi7 k c ro d n u v m h2 g
  exact Xi8 k c ro d n u v m h2 g
 exact Xw3 k c ro d n u v m ⟨h0,h1,h2⟩
end Go.Proofs.YtaannomfigammaaGreat
