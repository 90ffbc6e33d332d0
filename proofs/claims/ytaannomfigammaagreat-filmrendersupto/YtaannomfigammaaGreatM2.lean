/- Walks and facts of this seat's program over abstract states, printed by programs of mine; no conditions but those that each theorem names. -/
import Derived.Test.YtaannomfigammaaGreatM1
import Derived.StillTail
import Derived.Carry
import Derived.ChangeSame
import Derived.RowKit
import Derived.Test.YtaannomfigammaaGreatProg
set_option linter.unusedVariables false
set_option linter.unusedSimpArgs false
namespace Go.Eng
open Go
inductive Plan where
 | val
 | rd (lo:Nat)
 | rw (lo:Nat)
 | ext
 | up (q:Nat)
 | fl
 | wr
 deriving Inhabited,DecidableEq
def Plan.chain:Plan->Bool
 | .ext=>true
 | .up _=>true
 | .fl=>true
 | .wr=>true
 | _=>false
def Plan.isFl:Plan->Bool
 | .fl=>true
 | _=>false
def Plan.isRd:Plan->Bool
 | .rd _=>true
 | _=>false
def Plan.isWr:Plan->Bool
 | .wr=>true
 | _=>false
section
variable {P:Program}
def Does (P:Program)(o:Oper)(e:Operand->AV)(M:Ja1)(x:AV)(M':Ja1):Prop :=
 match o.op with
 | .store t y z=>Jx2 P t (e y) (e z) M=some M'/\x=.one .und
 | .call ⟨.value f,args,_⟩=>∃ g cs,e f=.one (.fn g cs)/\Ctr P g (args.toList.map e++Ji9 cs) M x M'
 | op=>Ji0 P e M op=some (x,M')
theorem Qt8 {ρ:Env}{nt:Nat}{tm:Tm}{M M':Ja1}{a:Act}{w:World}{o:Oper}{x:AV}(h:Does P o (opd tm) M x M')(hr:Rep ρ nt tm M a w){Q:Exit->Act->World->Prop}{K:Act->World->Prop}
  (hK:∀ ρ' v w',VR ρ' x v->RepM ρ' M' w'->Step M ρ w M' ρ' w'->K (a.put o.dst v) w'):o.wp P a w K Q:=by
 unfold Oper.wp
 unfold Does at h
 split at h
 ·rename_i t y z hop
  obtain ⟨hs,rfl⟩:=h
  obtain ⟨w',hrun,hm,hst⟩:=Kr9 P hr.mem hs (hr.opd y) (hr.opd z)
  have he:(execOp a.eval o).run P w=.ok .skip w':=by rw [Qo5 hop];simp only [Sem.run_bind,hrun,Result.andThen_ok,Sem.run_pure]
  rw [he,Oper.upon_skip]
  exact hK ρ undef w' rfl hm hst
 ·rename_i f args ts hop
  obtain ⟨g,cs,hf,hg⟩:=h
  have hfv:=hr.opd f
  rw [hf] at hfv
  obtain ⟨vs,hfe,hcaps⟩:=hfv
  have hargs:All2 (VR ρ) (args.toList.map (opd tm)) (args.toList.map a.eval):=Js7 (fun y=>hr.opd y) args.toList
  have hc:=hg ρ w _ hr.mem (hargs.append (Jy4 hcaps))
  have hea:(args.toList.map a.eval++vs.toList).toArray=args.map a.eval++vs:=by
   apply Array.ext';simp
  rw [hea] at hc
  have he0:(execOp a.eval o).run P w=(callFunc g (args.map a.eval++vs)).run P w:=by
   rw [Kx2 hop]
   simp only [resolve,hfe,Deferred.ofValue,Sem.run_bind,Sem.run_pure,Result.andThen_ok,invoke,Array.empty_append]
  rcases hc with ⟨⟨fn,hfn,hname,hbody⟩,hc⟩|⟨v,w',hrun,v',ρ',he',hv,hm,hst⟩
  ·have he:(execOp a.eval o).run P w=.ok (.enter g (args.map a.eval++vs)) w:=by
    rw [he0]
    simp only [Sem.run_bind,Sem.run_pure,Result.andThen_ok,callFunc,run_program,hfn,hname,hbody,Bool.false_eq_true,if_false]
   rw [he,Oper.upon_enter]
   refine hc.mono fun e w' ⟨v,ρ',he',hv,hm,hst⟩=>?_
   subst he'
   exact hK ρ' v w' hv hm hst
  ·injection he' with he';subst he'
   rw [he0,hrun,Oper.upon_value]
   exact hK ρ' v w' hv hm hst
 ·obtain ⟨v,w',ρ',hrun,hvr,hm,hst⟩:=Ko6 hr h
  rcases hrun with hrun|⟨hrun,rfl⟩
  ·rw [hrun,Oper.upon_value]
   exact hK ρ' v w' hvr hm hst
  ·rw [hrun,Oper.upon_skip]
   exact hK ρ' undef w' hvr hm hst
theorem Jx7 {e e':Operand->AV}{ps:Array (Nat × Operand)}(h:∀ x ∈ (ps.toList.map (·.2)).toArray,e x=e' x):(ps.toList.map fun p=>(p.1,e p.2))=ps.toList.map fun p=>(p.1,e' p.2) :=
 List.map_congr_left fun p hp=>by rw [h p.2 (by simpa using ⟨p.1,by simpa using hp⟩)]
theorem Qg7 {e e':Operand->AV}{M:Ja1}{op:Op}(h:∀ x ∈ op.operands,e x=e' x):Ji0 P e M op=Ji0 P e' M op:=by
 cases op
 case build t ps=>simp only [Ji0];rw [Jx7 (by simpa only [Op.operands] using h)]
 case buildSlice t n ps=>simp only [Ji0];rw [Jx7 (by simpa only [Op.operands] using h)]
 case slice t x lo hi mx =>
  simp only [Op.operands] at h
  cases mx with
  | some m=>rfl
  | none=>cases lo<;>cases hi<;>simp_all [Ji0]
 case makeFunc fn first captured =>
  simp only [Op.operands] at h
  cases fn<;>simp only [Ji0]
  rw [List.map_congr_left (g:=e') (l:=captured.toList) fun x hx=>h x (by simp at hx;simp [hx]),List.map_congr_left (g:=e') (l:=first.toList) fun x hx=>h x (by simp at hx;simp [hx])]
 case call c =>
  obtain ⟨cal,args,ts⟩:=c
  simp only [Op.operands,Call.operands] at h
  cases cal<;>simp only [Ji0]
  rw [List.map_congr_left (g:=e') (l:=args.toList) fun x hx=>h x (by simp at hx;simp [hx])]
 case makeMap t r=>cases r<;>rfl
 all_goals (first|rfl|(simp only [Op.operands] at h;simp_all [Ji0];done))
theorem Does.congr {e e':Operand->AV}{o:Oper}{M M':Ja1}{x:AV}(h:∀ y ∈ o.op.operands,e y=e' y)(hd:Does P o e M x M'):Does P o e' M x M':=by
 unfold Does at hd ⊢
 split at hd
 ·rename_i t y z hop
  rw [hop] at h
  simp only [Op.operands] at h
  rw [<-h y (by simp),<-h z (by simp)]
  exact hd
 ·rename_i f args ts hop
  rw [hop] at h
  simp only [Op.operands,Call.operands] at h
  obtain ⟨g,cs,h1,h2⟩:=hd
  refine ⟨g,cs,by rw [<-h f (by simp)];exact h1,?_⟩
  rw [<-List.map_congr_left (f:=e) (l:=args.toList) fun x hx=>h x (by simp at hx;simp [hx])]
  exact h2
 ·rw [<-Qg7 h];exact hd
def Watched (Ms:List Ja1)(W:List (Nat × Nat)):Prop:=∀ p,p ∈ W->∃ b,∀ M,M ∈ Ms.drop p.1->M[p.2]?=some b
def AOpsD (P:Program)(ops:Array Oper):List (Oper × Plan)->Tm->Ja1->List Ja1->List (Nat × Nat)->(Tm->Ja1->Prop)->Prop
 | [],tm,cur,hist,ws,K=>Watched hist ws/\K tm cur
 | (o,p)::rest,tm,cur,hist,ws,K =>
  match Jh3 ops o tm with
  | some true =>
   match p with
   | .val=>match Ji0 P (opd tm) [] o.op with
    | some (x,[])=>AOpsD P ops rest (putO o.dst x tm) cur hist ws K
    | _=>False
   | .rd lo=>match o.op with
    | .load t y=>match hist[lo]? with
     | some M=>match Jt3 P t (opd tm y) M with
      | some x=>AOpsD P ops rest (putO o.dst x tm) cur hist ws K
      | none=>False
     | none=>False
    | _=>False
   | .rw lo=>match o.op with
    | .load t y=>match opd tm y,hist[lo]? with
     | .one (.ptr r ver off),some M=>match Jt3 P t (.one (.ptr r ver off)) M with
      | some x=>AOpsD P ops rest (putO o.dst x tm) cur hist ((lo,r)::ws) K
      | none=>False
     | _,_=>False
    | _=>False
   | .ext=>match o.op with
    | .store _ _ _=>False
    | .call ⟨.value f,args,_⟩=>match opd tm f with
     | .one (.fn g cs)=>∃ ret extra,Ctr P g (args.toList.map (opd tm)++Ji9 cs) cur ret (cur++extra)/\AOpsD P ops rest (putO o.dst ret tm) (cur++extra) (hist++[cur++extra]) ws K
     | _=>False
    | op=>match Ji0 P (opd tm) cur op with
     | some (x,mem')=>(∃ extra,mem'=cur++extra)/\AOpsD P ops rest (putO o.dst x tm) mem' (hist++[mem']) ws K
     | none=>False
   | .up q=>match Ji0 P (opd tm) cur o.op with
    | some (x,mem')=>(∃ A x0 y0,hist[q]?=some A/\cur=A++x0/\mem'=A++y0)/\AOpsD P ops rest (putO o.dst x tm) mem' (hist++[mem']) ws K
    | none=>False
   | .fl=>match o.op,o.guard with
    | .alloc t,none=>match Jc0 P t with
     | some z=>AOpsD P ops rest (putO o.dst (.one (.ptr cur.length 0 0)) tm) (cur++[⟨.fix,t,0,0,z.cells.toList.map Jj4⟩]) (hist++[cur++[⟨.fix,t,0,0,z.cells.toList.map Jj4⟩]]) ws K
     | none=>False
    | _,_=>False
   | .wr=>match o.op with
    | .store t x y=>match Jx2 P t (opd tm x) (opd tm y) cur with
     | some mem'=>AOpsD P ops rest (putO o.dst (.one .und) tm) mem' (hist++[mem']) ws K
     | none=>False
    | .call ⟨.value f,args,_⟩=>match opd tm f with
     | .one (.fn g cs)=>∃ ret mem',Ctr P g (args.toList.map (opd tm)++Ji9 cs) cur ret mem'/\AOpsD P ops rest (putO o.dst ret tm) mem' (hist++[mem']) ws K
     | _=>False
    | op=>match Ji0 P (opd tm) cur op with
     | some (x,mem')=>AOpsD P ops rest (putO o.dst x tm) mem' (hist++[mem']) ws K
     | none=>False
  | some false=>AOpsD P ops rest (putO o.dst (.one .und) tm) cur (if p.chain then hist++[cur] else hist) ws K
  | none=>False
def OpF (P:Program)(ops:Array Oper)(o:Oper)(p:Plan)(tm:Tm)(hist:List Ja1)(W:List (Nat × Nat))(M:Ja1)(x:AV)(M':Ja1):Prop :=
 (Jh3 ops o tm=some false/\x=.one .und/\M'=M) \/
 (Jh3 ops o tm=some true/\match p with
  | .val=>M'=M/\Ji0 P (opd tm) [] o.op=some (x,[])
  | .rd lo=>M'=M/\∃ t y ML,o.op=.load t y/\hist[lo]?=some ML/\Jt3 P t (opd tm y) ML=some x
  | .rw lo=>M'=M/\∃ t y ML r ver off,o.op=.load t y/\hist[lo]?=some ML/\opd tm y=.one (.ptr r ver off)/\Jt3 P t (.one (.ptr r ver off)) ML=some x/\(lo,r) ∈ W
  | .ext=>(∃ extra,M'=M++extra)/\Does P o (opd tm) M x M'
  | .fl=>o.guard=none/\∃ t z,o.op=.alloc t/\Jc0 P t=some z/\x=.one (.ptr M.length 0 0)/\M'=M++[⟨.fix,t,0,0,z.cells.toList.map Jj4⟩]
  | .up q=>(∃ A:Ja1,hist[q]?=some A/\∀ r:Nat,r<A.length->M'[r]?=M[r]?)/\Does P o (opd tm) M x M'
  | .wr=>Does P o (opd tm) M x M')
def Run (P:Program)(ops:Array Oper)(W:List (Nat × Nat)):List (Oper × Plan)->Tm->Ja1->List Ja1->List AV->List Ja1->Tm->Ja1->Prop
 | [],tm,cur,hist,xs,Ms,tm',cur'=>xs=[]/\Ms=hist/\tm'=tm/\cur'=cur
 | (o,p)::rest,tm,cur,hist,xs,Ms,tm',cur'=>∃ x M' xs',xs=x::xs'/\OpF P ops o p tm hist W cur x M' /\
   Run P ops W rest (putO o.dst x tm) M' (if p.chain then hist++[M'] else hist) xs' Ms tm' cur'
theorem Kg1 {ops:Array Oper}:∀ (l:List (Oper × Plan)) (tm:Tm) (cur:Ja1) (hist:List Ja1) (ws:List (Nat × Nat)) (K:Tm->Ja1->Prop),AOpsD P ops l tm cur hist ws K ->
  ∃ W xs Ms tm' cur',(∀ p,p ∈ ws->p ∈ W)/\Watched Ms W/\Run P ops W l tm cur hist xs Ms tm' cur'/\K tm' cur'
 | [],tm,cur,hist,ws,K,h=>⟨ws,[],hist,tm,cur,fun _ h=>h,h.1,⟨rfl,rfl,rfl,rfl⟩,h.2⟩
 | (o,p)::rest,tm,cur,hist,ws,K,h=>by
  simp only [AOpsD] at h
  have gow:∀ x M' ws',(∀ p,p ∈ ws->p ∈ ws')->(∀ W,(∀ p,p ∈ ws'->p ∈ W)->OpF P ops o p tm hist W cur x M')->AOpsD P ops rest (putO o.dst x tm) M' (if p.chain then hist++[M'] else hist) ws' K->∃ W xs Ms tm' cur',(∀ p,p ∈ ws->p ∈ W)/\Watched Ms W/\Run P ops W ((o,p)::rest) tm cur hist xs Ms tm' cur'/\K tm' cur':=by
   intro x M' ws' hsub h1 h2
   obtain ⟨W,xs,Ms,tm',cur',h5,h6,h3,h4⟩:=Kg1 rest _ _ _ _ K h2
   exact ⟨W,x::xs,Ms,tm',cur',fun p hp=>h5 p (hsub p hp),h6,⟨x,M',xs,rfl,h1 W h5,h3⟩,h4⟩
  have go:∀ x M',(∀ W,OpF P ops o p tm hist W cur x M')->AOpsD P ops rest (putO o.dst x tm) M' (if p.chain then hist++[M'] else hist) ws K->∃ W xs Ms tm' cur',(∀ p,p ∈ ws->p ∈ W)/\Watched Ms W/\Run P ops W ((o,p)::rest) tm cur hist xs Ms tm' cur'/\K tm' cur' :=
   fun x M' h1 h2=>gow x M' ws (fun _ h=>h) (fun W _=>h1 W) h2
  split at h
  ·rename_i hw
   split at h
   ·split at h
    ·rename_i x he
     exact go x cur (fun W=>.inr ⟨hw,rfl,he⟩) h
    ·exact h.elim
   ·rename_i lo
    split at h
    ·rename_i t y hop
     split at h
     ·rename_i M hM
      split at h
      ·rename_i x hx
       exact go x cur (fun W=>.inr ⟨hw,rfl,t,y,M,hop,hM,hx⟩) h
      ·exact h.elim
     ·exact h.elim
    ·exact h.elim
   ·rename_i lo
    split at h
    ·rename_i t y hop
     split at h
     ·rename_i r ver off M hy hM
      split at h
      ·rename_i x hx
       exact gow x cur ((lo,r)::ws) (fun p hp=>List.mem_cons_of_mem _ hp) (fun W hW=>.inr ⟨hw,rfl,t,y,M,r,ver,off,hop,hM,hy,hx,hW _ (by simp)⟩) h
      ·exact h.elim
     ·exact h.elim
    ·exact h.elim
   ·split at h
    ·exact h.elim
    ·rename_i f args ts hop
     split at h
     ·rename_i g cs hf
      obtain ⟨ret,extra,hc,h⟩:=h
      refine go ret (cur++extra) (fun W=>.inr ⟨hw,⟨extra,rfl⟩,?_⟩) h
      unfold Does;rw [hop];exact ⟨g,cs,hf,hc⟩
     ·exact h.elim
    ·rename_i hop1 hop2
     split at h
     ·rename_i x mem' he
      refine go x mem' (fun W=>.inr ⟨hw,h.1,?_⟩) h.2
      unfold Does
      split
      ·rename_i t y z hop;exact absurd hop (hop1 t y z)
      ·rename_i f args ts hop;exact absurd hop (hop2 f args ts)
      ·exact he
     ·exact h.elim
   ·rename_i q
    split at h
    ·rename_i x mem' he
     obtain ⟨⟨A,x0,y0,hA,hc,hm⟩,h⟩:=h
     refine go x mem' (fun W=>.inr ⟨hw,⟨A,hA,fun r hr=>by rw [hm,hc,List.getElem?_append_left hr,List.getElem?_append_left hr]⟩,?_⟩) h
     unfold Does
     split
     ·rename_i hop;rw [hop] at he;simp [Ji0] at he
     ·rename_i hop;rw [hop] at he;simp [Ji0] at he
     ·exact he
    ·exact h.elim
   ·split at h
    ·rename_i t hop hg
     split at h
     ·rename_i z hz
      exact go _ _ (fun W=>.inr ⟨hw,hg,t,z,hop,hz,rfl,rfl⟩) h
     ·exact h.elim
    ·exact h.elim
   ·split at h
    ·rename_i t y z hop
     split at h
     ·rename_i mem' hs
      refine go (.one .und) mem' (fun W=>.inr ⟨hw,?_⟩) h
      show Does P o (opd tm) cur (.one .und) mem'
      unfold Does;rw [hop];exact ⟨hs,rfl⟩
     ·exact h.elim
    ·rename_i f args ts hop
     split at h
     ·rename_i g cs hf
      obtain ⟨ret,mem',hc,h⟩:=h
      refine go ret mem' (fun W=>.inr ⟨hw,?_⟩) h
      show Does P o (opd tm) cur ret mem'
      unfold Does;rw [hop];exact ⟨g,cs,hf,hc⟩
     ·exact h.elim
    ·rename_i hop1 hop2
     split at h
     ·rename_i x mem' he
      refine go x mem' (fun W=>.inr ⟨hw,?_⟩) h
      show Does P o (opd tm) cur x mem'
      unfold Does
      split
      ·rename_i t y z hop;exact absurd hop (hop1 t y z)
      ·rename_i f args ts hop;exact absurd hop (hop2 f args ts)
      ·exact he
     ·exact h.elim
  ·rename_i hw
   exact go (.one .und) cur (fun W=>.inl ⟨hw,rfl,rfl⟩) h
  ·exact h.elim
def Jh9 (l:List (Oper × Plan))(xs:List AV)(sel:Nat->Bool)(tm:Tm):Nat->Tm
 | 0=>tm
 | j+1=>match l[j]?,xs[j]? with
  | some (o,_),some x=>if sel j then putO o.dst x (Jh9 l xs sel tm j) else Jh9 l xs sel tm j
  | _,_=>Jh9 l xs sel tm j
def Jb0 (l:List (Oper × Plan)):Nat->Nat
 | 0=>0
 | j+1=>match l[j]? with
  | some (_,p)=>if p.chain then Jb0 l j+1 else Jb0 l j
  | none=>Jb0 l j
theorem Jt8 {o:Oper}{p:Plan}{l:List (Oper × Plan)}{x:AV}{xs:List AV}{tm:Tm}:∀ n,Jh9 ((o,p)::l) (x::xs) (fun _=>true) tm (n+1)=Jh9 l xs (fun _=>true) (putO o.dst x tm) n
 | 0=>by simp [Jh9]
 | n+1=>by
  rw [Jh9,Jt8 n,Jh9]
  simp only [List.getElem?_cons_succ]
theorem Jf7 {o:Oper}{p:Plan}{l:List (Oper × Plan)}:∀ n,Jb0 ((o,p)::l) (n+1)=Jb0 l n+(if p.chain then 1 else 0)
 | 0=>by simp [Jb0]
 | n+1=>by
  rw [Jb0,Jf7 n,Jb0]
  simp only [List.getElem?_cons_succ]
  split
  ·split<;>omega
  ·rfl
theorem Ke8 {ops:Array Oper}{W:List (Nat × Nat)}:∀ {l:List (Oper × Plan)} {tm:Tm} {cur:Ja1} {hist:List Ja1} {xs:List AV} {Ms:List Ja1} {tm':Tm} {cur':Ja1},Run P ops W l tm cur hist xs Ms tm' cur'->∃ t,Ms=hist++t
 | [],_,_,hist,_,_,_,_,h=>⟨[],by rw [h.2.1];simp⟩
 | (o,p)::rest,_,_,hist,_,_,_,_,⟨x,M',xs',h1,h2,h3⟩=>by
  obtain ⟨t,ht⟩:=Ke8 h3
  split at ht
  ·exact ⟨[M']++t,by rw [ht,List.append_assoc]⟩
  ·exact ⟨t,ht⟩
theorem Kk3 {ops:Array Oper}{W:List (Nat × Nat)}:∀ {l:List (Oper × Plan)} {tm:Tm} {cur:Ja1} {hist:List Ja1} {xs:List AV} {Ms:List Ja1} {tm':Tm} {cur':Ja1},Run P ops W l tm cur hist xs Ms tm' cur' ->
  ∀ h0:Nat,hist.length=h0+1->hist[h0]?=some cur ->
  Ms.length=h0+1+Jb0 l l.length/\tm'=Jh9 l xs (fun _=>true) tm l.length/\Ms[h0+Jb0 l l.length]?=some cur' /\
  ∀ i o p,l[i]?=some (o,p)->∃ x M M',xs[i]?=some x/\Ms[h0+Jb0 l i]?=some M/\Ms[h0+Jb0 l (i+1)]?=some M'/\OpF P ops o p (Jh9 l xs (fun _=>true) tm i) Ms W M x M'
 | [],tm,cur,hist,xs,Ms,tm',cur',⟨e1,e2,e3,e4⟩,h0,hl,hc=>by
  subst e1;subst e2;subst e3;subst e4
  exact ⟨by simp [Jb0,hl],rfl,by simpa [Jb0] using hc,fun i o p h=>by simp at h⟩
 | (o,p)::rest,tm,cur,hist,xs,Ms,tm',cur',⟨x,M',xs',e1,hop,hrun⟩,h0,hl,hc=>by
  subst e1
  obtain ⟨t,ht⟩:=Ke8 hrun
  have hpre:∀ {k:Nat} {M:Ja1},hist[k]?=some M->Ms[k]?=some M:=by
   intro k M hk
   have hkl:=(List.getElem?_eq_some_iff.1 hk).1
   split at ht
   ·rw [ht,List.append_assoc,List.getElem?_append_left hkl];exact hk
   ·rw [ht,List.getElem?_append_left hkl];exact hk
  have hop':OpF P ops o p tm Ms W cur x M':=by
   rcases hop with h|⟨h1,h2⟩
   ·exact .inl h
   ·refine .inr ⟨h1,?_⟩
    cases p with
    | rd lo=>obtain ⟨e,t,y,ML,q1,q2,q3⟩:=h2;exact ⟨e,t,y,ML,q1,hpre q2,q3⟩
    | rw lo=>obtain ⟨e,t,y,ML,r,ver,off,q1,q2,q3⟩:=h2;exact ⟨e,t,y,ML,r,ver,off,q1,hpre q2,q3⟩
    | up q=>obtain ⟨⟨A,q1,q2⟩,q3⟩:=h2;exact ⟨⟨A,hpre q1,q2⟩,q3⟩
    | val=>exact h2
    | ext=>exact h2
    | fl=>exact h2
    | wr=>exact h2
  have hnc:p.chain=false->M'=cur:=by
   intro hp
   rcases hop with h|⟨h1,h2⟩
   ·exact h.2.2
   ·cases p with
    | val=>exact h2.1
    | rd lo=>exact h2.1
    | rw lo=>exact h2.1
    | ext=>cases hp
    | up q=>cases hp
    | fl=>cases hp
    | wr=>cases hp
  cases hp:p.chain with
  | true =>
   rw [hp] at hrun
   simp only [if_true] at hrun
   obtain ⟨g1,g2,g3,g4⟩:=Kk3 hrun (h0+1) (by simp [hl]) (by rw [<-hl,List.getElem?_append_right (Nat.le_refl _)];simp)
   refine ⟨by rw [List.length_cons,Jf7,hp];simp only [if_true];omega,?_,?_,?_⟩
   ·rw [List.length_cons,Jt8];exact g2
   ·rw [List.length_cons,Jf7,hp];simp only [if_true];rw [<-g3];congr 1;omega
   ·intro i o' p' hi
    cases i with
    | zero =>
     simp at hi
     obtain ⟨rfl,rfl⟩:=hi
     refine ⟨x,cur,M',rfl,by simpa [Jb0] using hpre hc,?_,hop'⟩
     rw [Jf7,hp]
     simp only [if_true,Jb0,Nat.zero_add]
     split at ht
     ·rw [ht,List.append_assoc,<-hl,List.getElem?_append_right (Nat.le_refl _)];simp
     ·rename_i hh;exact absurd hp hh
    | succ i =>
     simp only [List.getElem?_cons_succ] at hi
     obtain ⟨x',M1,M2,q1,q2,q3,q4⟩:=g4 i o' p' hi
     refine ⟨x',M1,M2,by simpa using q1,?_,?_,?_⟩
     ·rw [Jf7,hp];simp only [if_true];rw [<-q2];congr 1;omega
     ·rw [Jf7,hp];simp only [if_true];rw [<-q3];congr 1;omega
     ·rw [Jt8];exact q4
  | false =>
   rw [hp] at hrun
   simp only [Bool.false_eq_true,if_false] at hrun
   have hM:=hnc hp
   subst hM
   obtain ⟨g1,g2,g3,g4⟩:=Kk3 hrun h0 hl hc
   refine ⟨by rw [List.length_cons,Jf7,hp];simpa using g1,?_,?_,?_⟩
   ·rw [List.length_cons,Jt8];exact g2
   ·rw [List.length_cons,Jf7,hp];simpa using g3
   ·intro i o' p' hi
    cases i with
    | zero =>
     simp at hi
     obtain ⟨rfl,rfl⟩:=hi
     refine ⟨x,M',M',rfl,by simpa [Jb0] using hpre hc,?_,hop'⟩
     rw [Jf7,hp]
     simpa [Jb0] using hpre hc
    | succ i =>
     simp only [List.getElem?_cons_succ] at hi
     obtain ⟨x',M1,M2,q1,q2,q3,q4⟩:=g4 i o' p' hi
     refine ⟨x',M1,M2,by simpa using q1,?_,?_,?_⟩
     ·rw [Jf7,hp];simpa using q2
     ·rw [Jf7,hp];simpa using q3
     ·rw [Jt8];exact q4
end
abbrev Pl:=List (Oper × Plan)
def Jh7 (l:Pl):Array Oper:=(l.map (·.1)).toArray
def Qh5 (b:Array Nat)(j i:Nat):Bool:=(b.getD j 0).testBit i
def Jn0 (ops:Array Oper)(o:Oper):List Tmp:=o.dst.toList++o.looksAt ops
def Kd7 (o:Oper)(ns:List Tmp):Bool :=
 match o.dst with
 | some d=>ns.contains d
 | none=>false
def chkE (l:Pl):Bool:=(List.range l.length).all fun j=>match l[j]? with
 | some (o,_)=>o.after.all fun e=>!Region.binds .any e || decide (e.on<j)
 | none=>true
def chkA (l:Pl)(b:Array Nat):Bool:=(List.range l.length).all fun j=>match l[j]? with
 | some (o,_)=>(List.range l.length).all fun i=>!Qh5 b j i || o.after.any fun e=>Region.binds .any e&&(e.on ==i || Qh5 b e.on i)
 | none=>true
def Vq0 (l:Pl)(f:Nat->Oper × Plan->Nat->Oper × Plan->Bool):Bool:=(List.range l.length).all fun j=>match l[j]? with
 | some oj=>(List.range j).all fun i=>match l[i]? with
  | some oi=>f i oi j oj
  | none=>true
 | none=>true
def chkN (l:Pl)(b:Array Nat):Bool:=Vq0 l fun i oi j oj=>!(Kd7 oi.1 (Jn0 (Jh7 l) oj.1) || Kd7 oj.1 (Jn0 (Jh7 l) oi.1)) || Qh5 b j i
def chkC (l:Pl)(b:Array Nat):Bool:=Vq0 l fun i oi j oj=>!(oi.2.chain&&oj.2.chain&&!oj.2.isFl || oi.2.isWr&&oj.2.isRd || oi.2.isRd&&oj.2.isWr) || Qh5 b j i
def chkL (l:Pl)(b:Array Nat):Bool:=(List.range l.length).all fun i=>match l[i]? with
 | some (_,.rd lo)=>(List.range l.length).all fun c=>match l[c]? with
  | some (_,p)=>(!(p.chain&&decide (Jb0 l c<lo)) || Qh5 b i c)&&(!(p.isWr&&decide (c<i)) || decide (Jb0 l c<lo))&&(match p with
   | .up q=>decide (q<=Jb0 l c)&&(decide (Jb0 l c<lo) || decide (i<c)&&Qh5 b c i || decide (lo<=q))
   | _=>true)
  | none=>true
 | _=>true
def chkR (l:Pl)(b:Array Nat):Bool:=(List.range l.length).all fun i=>match l[i]? with
 | some (_,.rw lo)=>(List.range l.length).all fun c=>match l[c]? with
  | some (_,p)=>!(p.chain&&decide (Jb0 l c<lo)) || Qh5 b i c
  | none=>true
 | _=>true
def chkF (l:Pl):Bool:=(List.range l.length).all fun i=>match l[i]? with
 | some (o,.fl)=>(o.dst.isSome&&o.guard.isNone)&&(List.range l.length).all fun j=>match l[j]? with
  | some (o',p)=>decide (j=i) || !Kd7 o (Jn0 (Jh7 l) o') || (p.chain&&!p.isFl)
  | none=>true
 | _=>true
def Jx6 (nt:Nat)(l:Pl):Bool:=chkE l&&chkA l (Region.before (Jh7 l))&&chkN l (Region.before (Jh7 l))&&chkC l (Region.before (Jh7 l))&&chkL l (Region.before (Jh7 l))&&chkF l&&chkR l (Region.before (Jh7 l))&&l.all (fun o=>Jz6 nt o.1)
theorem Kc9 {l:Pl}{f:Nat->Oper × Plan->Nat->Oper × Plan->Bool}(h:Vq0 l f=true){i j:Nat}{oi oj:Oper × Plan}(hi:l[i]?=some oi)(hj:l[j]?=some oj)(hij:i<j):f i oi j oj=true:=by
 unfold Vq0 at h
 have hjl:=(List.getElem?_eq_some_iff.1 hj).1
 have h1:=List.all_eq_true.1 h j (List.mem_range.2 hjl)
 rw [hj] at h1
 have h2:=List.all_eq_true.1 h1 i (List.mem_range.2 hij)
 rw [hi] at h2
 exact h2
section
variable {P:Program}{l:Pl}
theorem Qh2 (l:Pl):∀ {i j:Nat},i<=j->Jb0 l i<=Jb0 l j:=by
  intro i j h
  induction j with
  | zero=>have:i=0:=by omega
          subst this;exact Nat.le_refl _
  | succ j ih =>
    rcases Nat.lt_or_ge i (j+1) with h1|h1
    · have:=ih (by omega)
      simp only [Jb0]
      split
      · split<;>omega
      · omega
    · have:i=j+1:=by omega
      subst this;exact Nat.le_refl _
theorem Jk8 {i j:Nat}{o:Oper}{p:Plan}(hi:l[i]?=some (o,p))(hp:p.chain=true)(h:i<j):Jb0 l i<Jb0 l j:=by
 have h1:=Qh2 l (show i+1<=j from h)
 have h2:Jb0 l (i+1)=Jb0 l i+1:=by simp only [Jb0,hi,hp,if_true]
 omega
theorem Qc9 (l:Pl):∀ (n q:Nat),q<Jb0 l n->∃ c o p,c<n/\l[c]?=some (o,p)/\p.chain=true/\Jb0 l c=q
 | 0,q,h=>by simp [Jb0] at h
 | n+1,q,h=>by
  simp only [Jb0] at h
  split at h
  ·rename_i o p hl
   split at h
   ·rename_i hp
    by_cases hq:q=Jb0 l n
    ·exact ⟨n,o,p,by omega,hl,hp,hq.symm⟩
    ·obtain ⟨c,o,p,h1,h2⟩:=Qc9 l n q (by omega)
     exact ⟨c,o,p,by omega,h2⟩
   ·obtain ⟨c,o,p,h1,h2⟩:=Qc9 l n q h
    exact ⟨c,o,p,by omega,h2⟩
  ·obtain ⟨c,o,p,h1,h2⟩:=Qc9 l n q h
   exact ⟨c,o,p,by omega,h2⟩
theorem Kd8 (o:Oper)(x:AV)(tm:Tm)(t:Nat):Tm.get (putO o.dst x tm) t=if o.dst=some t then x else Tm.get tm t:=by
 unfold putO
 cases o.dst with
 | none=>simp
 | some d =>
  simp only [Tm.get,Option.some.injEq]
  by_cases h:t=d
  ·subst h;simp
  ·rw [if_neg h,if_neg (fun e=>h e.symm)]
theorem Qn4 {xs:List AV}{sel:Nat->Bool}{tm:Tm}{t n:Nat}:Tm.get (Jh9 l xs sel tm (n+1)) t=match l[n]?,xs[n]? with
  | some (o,_),some x=>if sel n=true/\o.dst=some t then x else Tm.get (Jh9 l xs sel tm n) t
  | _,_=>Tm.get (Jh9 l xs sel tm n) t:=by
 simp only [Jh9]
 cases l[n]? with
 | none=>rfl
 | some op =>
  obtain ⟨o,p⟩:=op
  cases xs[n]? with
  | none=>rfl
  | some x =>
   simp only
   by_cases hs:sel n=true
   ·rw [if_pos hs,Kd8]
    by_cases hd:o.dst=some t
    ·rw [if_pos hd,if_pos ⟨hs,hd⟩]
    ·rw [if_neg hd,if_neg (fun h=>hd h.2)]
   ·rw [if_neg hs,if_neg (fun h=>hs h.1)]
theorem Jq1 {xs xs':List AV}{sel sel':Nat->Bool}{tm:Tm}{t:Nat}:∀ n,(∀ j o p,j<n->l[j]?=some (o,p)->o.dst=some t->sel j=sel' j/\(sel j=true->xs[j]?=xs'[j]?)) ->
  (∀ j,j<n->xs[j]?.isSome=true/\xs'[j]?.isSome=true)->Tm.get (Jh9 l xs sel tm n) t=Tm.get (Jh9 l xs' sel' tm n) t
 | 0,_,_=>rfl
 | n+1,h,hx=>by
  have ih:=Jq1 (xs:=xs) (xs':=xs') (tm:=tm) n (fun j o p hj=>h j o p (by omega)) (fun j hj=>hx j (by omega))
  rw [Qn4,Qn4,ih]
  obtain ⟨x,hx1⟩:=Option.isSome_iff_exists.1 (hx n (by omega)).1
  obtain ⟨x',hx2⟩:=Option.isSome_iff_exists.1 (hx n (by omega)).2
  rw [hx1,hx2]
  cases hl:l[n]? with
  | none=>rfl
  | some op =>
   obtain ⟨o,p⟩:=op
   simp only
   by_cases hd:o.dst=some t
   ·obtain ⟨h1,h2⟩:=h n o p (by omega) hl hd
    rw [<-h1]
    by_cases hs:sel n=true
    ·have:=h2 hs
     rw [hx1,hx2] at this
     injection this with this
     rw [if_pos ⟨hs,hd⟩,if_pos ⟨hs,hd⟩,this]
    ·rw [if_neg (fun h=>hs h.1),if_neg (fun h=>hs h.1)]
   ·rw [if_neg (fun h=>hd h.2),if_neg (fun h=>hd h.2)]
def Js3 (l:Pl)(listed:Array Bool)(k j:Nat):Bool:=listed.getD j false&&(match l[j]? with
 | some (_,p)=>p.chain&&decide (k<=Jb0 l j)
 | none=>false)
def xsJ (l:Pl)(xs:List AV)(listed:Array Bool)(k:Nat):List AV:=(List.range l.length).map fun j=>if Js3 l listed k j then .one .junk else (xs[j]?).getD (.one .junk)
theorem Jo9 {xs:List AV}{listed:Array Bool}{k j:Nat}(hj:j<l.length):(xsJ l xs listed k)[j]?=some (if Js3 l listed k j then .one .junk else (xs[j]?).getD (.one .junk)):=by
 simp [xsJ,hj]
theorem RepM.claim {ρ:Env}{mem:Ja1}{w:World}(h:RepM ρ mem w){n:Nat}{ty:TypeId}{cells:List CV}{c:Array Value}(hheap:w.heap[n]?=some (.cells c ty (0,0)))(hall:All2 (VC ρ) cells c.toList)
  (hne:∀ (r:Nat) (b:Blk) (x:Addr) (κ:Nat),mem[r]?=some b->(b.kind=.ro->b.cells≠[])->ρ r b.ver=some (some x,κ)->x.block≠n) :
  RepM (ρ.set mem.length 0 (some ⟨n,0,none⟩,c.size)) (mem++[⟨.fix,ty,0,0,cells⟩]) w:=by
 have hle:ρ.le (ρ.set mem.length 0 (some ⟨n,0,none⟩,c.size)):=Env.le_set (h.dom _ _ (Nat.le_refl _))
 have hgt:∀ {r:Nat} {c:Blk},(mem++[⟨.fix,ty,0,0,cells⟩])[r]?=some c->(r<mem.length/\mem[r]?=some c)\/(r=mem.length/\c=⟨.fix,ty,0,0,cells⟩):=by
  intro r c hc
  rcases Nat.lt_trichotomy r mem.length with hr|hr|hr
  ·exact .inl ⟨hr,by rwa [List.getElem?_append_left hr] at hc⟩
  ·subst hr;simp at hc;exact .inr ⟨rfl,hc.symm⟩
  ·rw [List.getElem?_append_right (by omega)] at hc
   rw [List.getElem?_eq_none (by simp;omega)] at hc
   cases hc
 have hold:∀ {r v:Nat},r<mem.length->ρ.set mem.length 0 (some ⟨n,0,none⟩,c.size) r v=ρ r v:=fun {r v} hr=>Env.set_other ρ _ (by omega)
 refine ⟨?_,?_,?_,?_⟩
 ·intro r c' hc
  rcases hgt hc with ⟨hr,hc1⟩|⟨e1,e2⟩
  ·exact (h.blk r c' hc1).mono hle
  ·subst e1;subst e2
   exact ⟨n,c,c.size,Env.set_same _ _ _ _,hheap,hall.mono fun _ _=>VC.mono hle,rfl⟩
 ·intro r v hr
  simp at hr
  rw [Env.set_other ρ _ (by omega)]
  exact h.dom r v (by omega)
 ·intro r c' v hc hv
  rcases hgt hc with ⟨hr,hc1⟩|⟨e1,e2⟩
  ·rw [hold hr];exact h.domv r c' v hc1 hv
  ·subst e1;subst e2
   rw [Env.set_other ρ _ (by simp only at hv;omega)];exact h.dom _ _ (Nat.le_refl _)
 ·intro r s c' d hc hd hrs hk hne' x y k l hx hy
  rcases hgt hc with ⟨hr,hc1⟩|⟨e1,e2⟩<;>rcases hgt hd with ⟨hs,hd1⟩|⟨e3,e4⟩
  ·rw [hold hr] at hx;rw [hold hs] at hy
   exact h.sep r s c' d hc1 hd1 hrs hk hne' x y k l hx hy
  ·subst e3;subst e4;rw [hold hr] at hx;rw [Env.set_same] at hy
   injection hy with hy;injection hy with hy _;injection hy with hy;subst hy
   exact hne r c' x k hc1 (fun e=>absurd e hk) hx
  ·subst e1;subst e2;rw [hold hs] at hy;rw [Env.set_same] at hx
   injection hx with hx;injection hx with hx _;injection hx with hx;subst hx
   exact fun e=>hne s d y l hd1 hne' hy e.symm
  ·exact absurd (e1.trans e3.symm) hrs
theorem Step.claim {m0 mem:Ja1}{ρ0 ρ:Env}{w0 w:World}(hs:Step m0 ρ0 w0 mem ρ w)(hm:RepM ρ mem w){n:Nat}(hge:w0.heap.size<=n)(ty:TypeId)(cells:List CV)(kk:Nat) :
  Step m0 ρ0 w0 (mem++[⟨.fix,ty,0,0,cells⟩]) (ρ.set mem.length 0 (some ⟨n,0,none⟩,kk)) w:=by
 have hle:ρ.le (ρ.set mem.length 0 (some ⟨n,0,none⟩,kk)):=Env.le_set (hm.dom _ _ (Nat.le_refl _))
 have hgt:∀ {r:Nat} {c:Blk},(mem++[⟨.fix,ty,0,0,cells⟩])[r]?=some c->(r<mem.length/\mem[r]?=some c)\/(r=mem.length/\c=⟨.fix,ty,0,0,cells⟩):=by
  intro r c hc
  rcases Nat.lt_trichotomy r mem.length with hr|hr|hr
  ·exact .inl ⟨hr,by rwa [List.getElem?_append_left hr] at hc⟩
  ·subst hr;simp at hc;exact .inr ⟨rfl,hc.symm⟩
  ·rw [List.getElem?_append_right (by omega)] at hc
   rw [List.getElem?_eq_none (by simp;omega)] at hc
   cases hc
 refine ⟨hs.os,hs.tape,hs.output,hs.size,by simp only [List.length_append];have:=hs.len;omega,fun r hr v x hx=>hle _ _ _ (hs.ext r hr v x hx),?_,?_,hs.frame,?_⟩
 ·intro r b b' hb hb'
  have hr:=(List.getElem?_eq_some_iff.1 hb).1
  have:=hs.len
  rcases hgt hb' with ⟨_,h1⟩|⟨e1,_⟩
  ·exact hs.kind r b b' hb h1
  ·omega
 ·intro r b hb hro
  rcases hgt hb with ⟨_,h1⟩|⟨_,e2⟩
  ·exact hs.ro r b h1 hro
  ·subst e2;cases hro
 ·intro r b x k hb hk hx
  rcases hgt hb with ⟨hr,h1⟩|⟨e1,e2⟩
  ·rw [Env.set_other ρ _ (by omega)] at hx
   exact hs.fresh r b x k h1 hk hx
  ·subst e1;subst e2
   rw [Env.set_same] at hx
   injection hx with hx;injection hx with hx _;injection hx with hx;subst hx
   exact .inl hge
theorem RepM.garbage {ρ:Env}{mem:Ja1}{w:World}(h:RepM ρ mem w)(o:Obj):RepM ρ mem (w.alloc o)/\Step mem ρ w mem ρ (w.alloc o) :=
  ⟨⟨fun r b hb=>(h.blk r b hb).heap (by simp) fun x k _ _ hl=>Jz1 w o _ hl,h.dom,h.domv,h.sep⟩,
   ⟨rfl,rfl,rfl,by simp,Nat.le_refl _,fun _ _ _ _ h=>h,(fun r b b' h1 h2=>by rw [h1] at h2;injection h2 with e;rw [e]),fun _ _ h _=>h,fun n hn _=>Jz1 w o n hn,fun r b x k h1 h2 h3=>.inr ⟨r,b,x,k,h1,h2,h3,rfl⟩⟩⟩
theorem Vk9 {xs:List AV}{tm:Tm}{i:Nat}:∀ n,i<=n->Jh9 l xs (fun j=>decide (j<i)) tm n=Jh9 l xs (fun _=>true) tm i:=by
  have low:∀ k,k<=i->Jh9 l xs (fun j=>decide (j<i)) tm k=Jh9 l xs (fun _=>true) tm k:=by
    intro k
    induction k with
    | zero=>intro _;rfl
    | succ k ih =>
      intro hk
      simp only [Jh9]
      rw [ih (by omega)]
      split
      · rw [if_pos (by simp;omega)];simp
      · rfl
  intro n hn
  induction n with
  | zero=>have:i=0:=by omega
          subst this;rfl
  | succ n ih =>
    by_cases h:i=n+1
    · subst h;exact low _ (Nat.le_refl _)
    · rw [<-ih (by omega)]
      simp only [Jh9]
      split
      · rw [if_neg (by simp;omega)]
      · rfl
theorem Ki6 {xs:List AV}{sel:Nat->Bool}{tm:Tm}{t i:Nat}{o:Oper}{p:Plan}{x:AV}(hi:l[i]?=some (o,p))(hd:o.dst=some t)(hx:xs[i]?=some x)(hs:sel i=true) :
  ∀ n,i<n->(∀ j o p,i<j->j<n->l[j]?=some (o,p)->o.dst=some t->sel j=false)->Tm.get (Jh9 l xs sel tm n) t=x
 | 0,h,_=>by omega
 | n+1,h,hlater=>by
  simp only [Jh9]
  by_cases hin:i=n
  ·subst hin
   rw [hi,hx]
   simp only [hs,if_true]
   rw [Kd8,if_pos hd]
  ·have ih:=Ki6 (tm:=tm) hi hd hx hs n (by omega) (fun j o p h1 h2=>hlater j o p h1 (by omega))
   split
   ·rename_i o' p' x' hl hx'
    by_cases hd':o'.dst=some t
    ·rw [hlater n o' p' (by omega) (by omega) hl hd'];simpa using ih
    ·split
     ·rw [Kd8,if_neg hd'];exact ih
     ·exact ih
   ·exact ih
theorem Vg9 {e:Operand->AV}{op:Op}{x:AV}(h:Ji0 P e [] op=some (x,[]))(M:Ja1):Ji0 P e M op=some (x,M):=by
 have mp:∀ {y:Option AV},(y.map fun z=>(z,([]:Ja1)))=some (x,[])->(y.map fun z=>(z,M))=some (x,M):=by
  intro y h
  simp only [Option.map_eq_some_iff,Prod.mk.injEq] at h ⊢
  obtain ⟨a,h1,h2⟩:=h
  exact ⟨a,h1,h2.1,trivial⟩
 have hne:∀ {y:AV} {b:Blk},some (y,([]:Ja1)++[b])=some (x,[])->False:=by
  intro y b h;simp at h
 unfold Ji0 at h ⊢
 split at h
 ·injection h with h;injection h with h;subst h;rfl
 ·injection h with h;injection h with h;subst h;rfl
 ·split at h
  ·rename_i hc;injection h with h;injection h with h;subst h;simp only [hc]
  ·cases h
 ·unfold Qd6 at h;split at h
  ·exact (hne h).elim
  ·cases h
 ·unfold Yc6 at h;split at h
  ·exact (hne h).elim
  ·cases h
 ·exact mp h
 ·unfold Jq7 at h
  split at h
  ·split at h
   ·split at h
    ·split at h
     ·exact (hne h).elim
     ·cases h
    ·cases h
   ·cases h
  ·cases h
 ·rename_i t y
  simp only [Option.map_eq_some_iff] at h
  obtain ⟨a,h1,_⟩:=h
  unfold Jt3 at h1
  split at h1
  ·simp at h1
  ·simp [gB] at h1
  ·cases h1
 ·split at h
  ·rename_i r v o hc;injection h with h;injection h with h;subst h;simp only [hc]
  ·rename_i f cs hc;injection h with h;injection h with h;subst h;simp only [hc]
  ·rename_i g o hc;injection h with h;injection h with h;subst h;simp only [hc]
  ·cases h
 ·exact mp h
 ·exact mp h
 ·exact Vh4 P h
 ·simp only [Option.map_eq_some_iff,Prod.mk.injEq] at h ⊢
  obtain ⟨a,h1,h2⟩:=h
  exact ⟨a,Qq5 P h1,h2.1,trivial⟩
 ·exact mp h
 ·exact mp h
 ·exact mp h
 ·exact mp h
 ·exact mp h
 ·exact mp h
 ·split at h
  ·rename_i h0
   rw [if_pos h0]
   simp only [Option.map_eq_some_iff,Prod.mk.injEq] at h ⊢
   obtain ⟨a,h1,h2⟩:=h
   exact ⟨a,h1,h2.1,trivial⟩
  ·rename_i h0
   rw [if_neg h0]
   split at h
   ·rename_i h1
    rw [if_pos h1]
    exact mp h
   ·cases h
 ·unfold Ve3 at h
  split at h
  ·split at h
   ·split at h
    ·exact (hne h).elim
    ·cases h
   ·cases h
  ·cases h
 ·unfold Kj0 at h ⊢
  split at h
  ·simp only [Option.map_eq_some_iff,Prod.mk.injEq] at h ⊢
   obtain ⟨a,h1,h2⟩:=h
   exact ⟨a,Vs0 h1 M,h2.1,trivial⟩
  ·split at h
   ·unfold Kp7 at h
    split at h
    ·split at h
     ·split at h
      ·split at h
       ·split at h
        ·split at h
         ·split at h
          ·exact (hne h).elim
          ·cases h
         ·simp at h
         ·cases h
        ·cases h
       ·cases h
      ·cases h
     ·cases h
    ·cases h
   ·cases h
  ·unfold Vh3 at h
   split at h
   ·split at h
    ·rename_i hb _;simp at hb
    ·cases h
   ·cases h
  ·exact mp h
  ·unfold usA at h ⊢
   split at h
   ·split at h
    ·rename_i h0
     rw [if_pos h0]
     injection h with h;injection h with h1 h2;subst h1;rfl
    ·cases h
   ·simp at h
   ·cases h
  ·exact mp h
  ·exact mp h
  ·unfold Qc8 at h ⊢
   split at h
   ·rw [Jo4] at h;cases h
   ·injection h with h;injection h with h;subst h;rfl
   ·cases h
  ·unfold Kp2 at h
   split at h
   ·rw [Jo4] at h;cases h
   ·cases h
  ·cases h
 ·unfold Kd2 at h
  split at h
  ·split at h
   ·exact (hne h).elim
   ·cases h
  ·cases h
 ·simp only [Option.map_eq_some_iff] at h
  obtain ⟨a,h1,_⟩:=h
  unfold Kn3 at h1
  split at h1
  ·rw [Jo4] at h1;cases h1
  ·cases h1
 ·simp only [Option.map_eq_some_iff] at h
  obtain ⟨a,h1,_⟩:=h
  unfold Qb3 at h1
  split at h1
  ·rw [Jo4] at h1;cases h1
  ·cases h1
 ·unfold Jx9 at h
  split at h
  ·rw [Jo4] at h;cases h
  ·cases h
 ·simp only [Option.map_eq_some_iff] at h
  obtain ⟨a,h1,_⟩:=h
  unfold Jq6 at h1
  split at h1
  ·rw [Jo4] at h1;cases h1
  ·cases h1
 ·unfold Qa7 at h
  split at h
  ·rw [Jo4] at h;cases h
  ·cases h
 ·simp only [Option.map_eq_some_iff] at h
  obtain ⟨a,h1,_⟩:=h
  unfold Qc7 at h1
  split at h1
  ·simp at h1
  ·cases h1
 ·cases h
theorem Jv9 {o:Oper}{e:Operand->AV}{M M':Ja1}{x:AV}(h:Ji0 P e M o.op=some (x,M')):Does P o e M x M':=by
 unfold Does
 split
 ·rename_i hop;rw [hop] at h;simp [Ji0] at h
 ·rename_i hop;rw [hop] at h;simp [Ji0] at h
 ·exact h
theorem Qs2 {t:TypeId}{x y:AV}{M M':Ja1}(h:Jt3 P t x M=some y)(hm:∀ (r:Nat) (b:Blk),M[r]?=some b->M'[r]?=some b):Jt3 P t x M'=some y:=by
 unfold Jt3 at h ⊢
 split at h
 ·rename_i r ver off
  split at h
  ·rename_i b hb
   rw [hm r b hb];exact h
  ·cases h
 ·rename_i g off
  have he:M'=M++M'.drop M.length:=by
   refine List.ext_getElem? fun i=>?_
   rcases Nat.lt_or_ge i M.length with hi|hi
   ·rw [List.getElem?_append_left hi,List.getElem?_eq_getElem hi]
    exact hm i _ (List.getElem?_eq_getElem hi)
   ·rw [List.getElem?_append_right hi,List.getElem?_drop]
    congr 1;omega
  split at h
  ·rename_i cs hcs
   have:gB M' g=some cs:=by
    rw [he];unfold gB at hcs ⊢
    rw [List.find?_append]
    cases hf:M.find? fun b=>b.kind.tag ==2&&b.ver ==g+1&&!b.cells.isEmpty with
    | none=>rw [hf] at hcs;cases hcs
    | some b=>rw [hf] at hcs;simpa using hcs
   rw [this];exact h
  ·cases h
 ·cases h
theorem Kt4 {ops:Array Oper}{o:Oper}{tm tm':Tm}(h:∀ t,t ∈ o.looksAt ops->Tm.get tm t=Tm.get tm' t):Jh3 ops o tm=Jh3 ops o tm':=by
 unfold Jh3
 cases hg:o.guard with
 | none=>rfl
 | some jw =>
  obtain ⟨j,want⟩:=jw
  simp only
  cases hd:(ops[j]?).bind (·.dst) with
  | none=>rfl
  | some t =>
   simp only
   rw [h t (by unfold Oper.looksAt;simp [hg,hd])]
theorem Vc8 {ops:Array Oper}{o:Oper}{tm tm':Tm}(h:∀ t,t ∈ o.looksAt ops->Tm.get tm t=Tm.get tm' t):∀ y ∈ o.op.operands,opd tm y=opd tm' y:=by
 intro y hy
 cases y with
 | tmp t=>exact h t (by unfold Oper.looksAt;exact List.mem_append_left _ (List.mem_filterMap.2 ⟨.tmp t,by simpa using hy,rfl⟩))
 | _=>rfl
theorem Kp3 {α:Type}{p q:α->Bool}:∀ {l:List α},(∀ x,x ∈ l->q x=true->p x=true)->∀ x,x ∈ l->p x=true->q x=false->l.countP q<l.countP p
 | [],_,x,hx,_,_=>by cases hx
 | y::l,h,x,hx,hp,hq=>by
  have hle:l.countP q<=l.countP p:=List.countP_mono_left fun z hz=>h z (List.mem_cons_of_mem _ hz)
  rcases List.mem_cons.1 hx with rfl|hx
  ·rw [List.countP_cons_of_pos hp,List.countP_cons_of_neg (by simp [hq])];omega
  ·have ih:=Kp3 (fun z hz=>h z (List.mem_cons_of_mem _ hz)) x hx hp hq
   by_cases hy:q y=true
   ·rw [List.countP_cons_of_pos hy,List.countP_cons_of_pos (h y List.mem_cons_self hy)];omega
   ·rw [List.countP_cons_of_neg hy]
    by_cases hy':p y=true
    ·rw [List.countP_cons_of_pos hy'];omega
    ·rw [List.countP_cons_of_neg hy'];exact ih
theorem Kp8 {nt:Nat}(hok:Jx6 nt l=true){tm:Tm}{mem:Ja1}{K:Tm->Ja1->Prop}(h:AOpsD P (Jh7 l) l tm mem [mem] [] K){ρ0:Env}{a0:Act}{w0:World}{Q:Exit->Act->World->Prop}
  (hr0:Rep ρ0 nt tm mem a0 w0) (hQ:∀ ρ' tm' mem' a' w',Rep ρ' nt tm' mem' a' w'->Step mem ρ0 w0 mem' ρ' w'->a'.defers=a0.defers->K tm' mem'->Q .normal a' w') :
  wpAny P .any (Jh7 l) Q (Jh7 l).size (Array.replicate (Jh7 l).size false) a0 w0:=by
 obtain ⟨Wt,xs,Ms,tmF,memF,_,hWt,hrun,hK⟩:=Kg1 l tm mem [mem] [] K h
 obtain ⟨hxl,htmF,hmemF,hfacts⟩:=Kk3 hrun 0 rfl rfl
 simp only [Nat.zero_add] at hmemF hfacts
 simp only [Jx6,Bool.and_eq_true] at hok
 obtain ⟨⟨⟨⟨⟨⟨⟨hE,hA⟩,hN⟩,hC⟩,hL⟩,hF⟩,hR⟩,hD⟩:=hok
 generalize hb:Region.before (Jh7 l)=b at hA hN hC hL hR
 have hsz:(Jh7 l).size=l.length:=by simp [Jh7]
 have hat:∀ i,i<l.length->∃ o p,l[i]?=some (o,p):=fun i hi=>⟨(l[i]'hi).1,(l[i]'hi).2,by rw [List.getElem?_eq_getElem hi]⟩
 have hxsome:∀ i,i<l.length->xs[i]?.isSome=true:=fun i hi=>by
  obtain ⟨o,p,hi'⟩:=hat i hi
  obtain ⟨x,_,_,hx,_⟩:=hfacts i o p hi'
  rw [hx];rfl
 have hxJsome:∀ listed k i,i<l.length->(xsJ l xs listed k)[i]?.isSome=true:=fun listed k i hi=>by rw [Jo9 hi];rfl
 have hMl:∀ {k:Nat} {M:Ja1},Ms[k]?=some M->k<=Jb0 l l.length:=fun {k M} hk=>by
  have:=(List.getElem?_eq_some_iff.1 hk).1
  omega
 have hops:∀ {i:Nat} {o:Oper},(Jh7 l)[i]?=some o->∃ p,l[i]?=some (o,p):=by
  intro i o ho
  simp only [Jh7,List.getElem?_toArray,List.getElem?_map,Option.map_eq_some_iff] at ho
  obtain ⟨⟨o',p⟩,h1,rfl⟩:=ho
  exact ⟨p,h1⟩
 have hops':∀ {i:Nat} {o:Oper} {p:Plan},l[i]?=some (o,p)->(Jh7 l)[i]?=some o:=by
  intro i o p h
  simp [Jh7,h]
 have hEdge:∀ {j:Nat} {o:Oper} {p:Plan},l[j]?=some (o,p)->∀ e ∈ o.after,Region.binds .any e=true->e.on<j:=by
  intro j o p hj e he hbd
  have h1:=List.all_eq_true.1 hE j (List.mem_range.2 (List.getElem?_eq_some_iff.1 hj).1)
  rw [hj] at h1
  have h2:=Array.all_eq_true_iff_forall_mem.1 h1 e he
  simpa [hbd] using h2
 have hAnc:∀ {j:Nat} {o:Oper} {p:Plan},l[j]?=some (o,p)->∀ i,i<l.length->Qh5 b j i=true->∃ e ∈ o.after,Region.binds .any e=true/\(e.on=i\/Qh5 b e.on i=true):=by
  intro j o p hj i hi hb
  have h1:=List.all_eq_true.1 hA j (List.mem_range.2 (List.getElem?_eq_some_iff.1 hj).1)
  rw [hj] at h1
  have h2:=List.all_eq_true.1 h1 i (List.mem_range.2 hi)
  rw [hb] at h2
  simp only [Bool.not_true,Bool.false_or] at h2
  obtain ⟨e,he,h3⟩:=Array.any_eq_true'.1 h2
  simp only [Bool.and_eq_true,Bool.or_eq_true,beq_iff_eq] at h3
  exact ⟨e,he,h3.1,h3.2⟩
 have hFg:∀ {i:Nat} {o:Oper},l[i]?=some (o,Plan.fl)->o.guard=none:=by
  intro i o hi
  have h1:=List.all_eq_true.1 hF i (List.mem_range.2 (List.getElem?_eq_some_iff.1 hi).1)
  rw [hi] at h1
  simp only [Bool.and_eq_true] at h1
  exact Option.isNone_iff_eq_none.1 h1.1.2
 have hFl:∀ {i:Nat} {o:Oper},l[i]?=some (o,Plan.fl)->(∃ d,o.dst=some d)/\∀ j o' p',l[j]?=some (o',p')->j≠i->∀ d,o.dst=some d->d ∈ Jn0 (Jh7 l) o'->p'.chain=true/\p'.isFl=false:=by
  intro i o hi
  have h1:=List.all_eq_true.1 hF i (List.mem_range.2 (List.getElem?_eq_some_iff.1 hi).1)
  rw [hi] at h1
  simp only [Bool.and_eq_true] at h1
  refine ⟨Option.isSome_iff_exists.1 h1.1.1,fun j o' p' hj hji d hd hmem=>?_⟩
  have h2:=List.all_eq_true.1 h1.2 j (List.mem_range.2 (List.getElem?_eq_some_iff.1 hj).1)
  rw [hj] at h2
  have h3:Kd7 o (Jn0 (Jh7 l) o')=true:=by simp [Kd7,hd,hmem]
  simp only [h3,Bool.not_true,Bool.or_false,Bool.or_eq_true,decide_eq_true_eq,Bool.and_eq_true,Bool.not_eq_true'] at h2
  rcases h2 with h2|h2
  ·exact absurd h2 hji
  ·exact h2
 have hisFl:∀ {p:Plan},p.isFl=true->p=.fl:=fun {p} h=>by cases p<;>simp [Plan.isFl] at h;rfl
 have hflf:∀ {c:Nat} {o:Oper},l[c]?=some (o,Plan.fl)->∃ t z M1,o.op=.alloc t/\Jc0 P t=some z/\xs[c]?=some (.one (.ptr M1.length 0 0))/\Ms[Jb0 l c]?=some M1/\Ms[Jb0 l c+1]?=some (M1++[⟨.fix,t,0,0,z.cells.toList.map Jj4⟩])/\o.guard=none:=by
  intro c o hc
  obtain ⟨x,M1,M2,hx,hM1,hM2,hop⟩:=hfacts c o _ hc
  have hc1:Jb0 l (c+1)=Jb0 l c+1:=by simp only [Jb0,hc,Plan.chain,if_true]
  rw [hc1] at hM2
  have hop':o.guard=none/\∃ t z,o.op=.alloc t/\Jc0 P t=some z/\x=.one (.ptr M1.length 0 0)/\M2=M1++[⟨.fix,t,0,0,z.cells.toList.map Jj4⟩]:=by
   rcases hop with ⟨hw,_⟩|⟨_,hop⟩
   ·exfalso
    simp [Jh3,hFg hc] at hw
   ·exact hop
  obtain ⟨hg,t,z,h1,h2,h3,h4⟩:=hop'
  subst h3;subst h4
  exact ⟨t,z,M1,h1,h2,hx,hM1,hM2,hg⟩
 let Jn:Array Bool->Prop:=fun listed=>listed.size=l.length/\∀ j o p,l[j]?=some (o,p)->listed.getD j false=true->∀ e ∈ o.after,Region.binds .any e=true->listed.getD e.on false=true
 have hclosed:∀ {listed:Array Bool},Jn listed->∀ (j:Nat) (o:Oper) (p:Plan),l[j]?=some (o,p)->listed.getD j false=true->∀ i,i<l.length->Qh5 b j i=true->listed.getD i false=true:=by
  intro listed hJ j
  induction j using Nat.strongRecOn with
  | _ j ih =>
   intro o p hj hl i hi hanc
   obtain ⟨e,he,hbd,hor⟩:=hAnc hj i hi hanc
   have hel:=hJ.2 j o p hj hl e he hbd
   rcases hor with rfl|hor
   ·exact hel
   ·have hlt:=hEdge hj e he hbd
    have hjl:=(List.getElem?_eq_some_iff.1 hj).1
    obtain ⟨oe,pe,hoe⟩:=hat e.on (by omega)
    exact ih e.on hlt oe pe hoe hel i hi hor
 let St:Array Bool->Nat->Act->World->Prop:=fun listed k a w=>∃ (ρ:Env) (M:Ja1) (N:Nat->Nat),Ms[k]?=some M /\
  (∀ c o p,l[c]?=some (o,p)->p.chain=true->Jb0 l c<k->listed.getD c false=true) /\
  (∀ c o p,l[c]?=some (o,p)->p.chain=true->listed.getD c false=true->k<=Jb0 l c->p=.fl) /\
  Rep ρ nt (Jh9 l (xsJ l xs listed k) (fun j=>listed.getD j false) tm l.length) M a w/\Step mem ρ0 w0 M ρ w/\a.defers=a0.defers /\
  (∀ c o,l[c]?=some (o,Plan.fl)->listed.getD c false=true->k<=Jb0 l c->∃ t z d,o.op=.alloc t/\Jc0 P t=some z/\o.dst=some d/\a.tmps.getD d undef=.pointer (some ⟨N c,0,none⟩) /\
   w.heap[N c]?=some (.cells z.cells t (0,0))/\w0.heap.size<=N c/\∀ (r:Nat) (b:Blk) (x:Addr) (κ:Nat),M[r]?=some b->(b.kind=.ro->b.cells≠[])->ρ r b.ver=some (some x,κ)->x.block≠N c) /\
  (∀ c c' o o',l[c]?=some (o,Plan.fl)->l[c']?=some (o',Plan.fl)->listed.getD c false=true->listed.getD c' false=true->k<=Jb0 l c->k<=Jb0 l c'->c≠c'->N c≠N c')
 have hearly:∀ {listed:Array Bool} {k j:Nat} {o:Oper} {p:Plan},l[j]?=some (o,p)->(Js3 l listed k j=true↔listed.getD j false=true/\p.chain=true/\k<=Jb0 l j):=by
  intro listed k j o p hj
  simp [Js3,hj]
 have huniq:∀ {c c':Nat} {o o':Oper} {p p':Plan},l[c]?=some (o,p)->l[c']?=some (o',p')->p.chain=true->p'.chain=true->Jb0 l c=Jb0 l c'->c=c':=by
  intro c c' o o' p p' hc hc' hp hp' he
  rcases Nat.lt_trichotomy c c' with h|h|h
  ·have:=Jk8 hc hp h;omega
  ·exact h
  ·have:=Jk8 hc' hp' h;omega
 have absorb:∀ (m:Nat) (listed:Array Bool) (k:Nat) (a:Act) (w:World),Jn listed->Jb0 l l.length - k<=m->St listed k a w ->
   ∃ k',St listed k' a w/\∀ c o p,l[c]?=some (o,p)->p.chain=true->Jb0 l c=k'->listed.getD c false=false:=by
  intro m
  induction m with
  | zero =>
   intro listed k a w hJ hm hS
   refine ⟨k,hS,fun c o p hc hp hk=>?_⟩
   obtain ⟨ρ,M,N,hM,_⟩:=hS
   have:=hMl hM
   have:=Jk8 hc hp (List.getElem?_eq_some_iff.1 hc).1
   omega
  | succ m ih =>
   intro listed k a w hJ hm hS
   by_cases hex:∃ c o p,l[c]?=some (o,p)/\p.chain=true/\Jb0 l c=k/\listed.getD c false=true
   ·obtain ⟨c,o,p,hc,hp,hck,hlc⟩:=hex
    have hclt:=Jk8 hc hp (List.getElem?_eq_some_iff.1 hc).1
    refine ih listed (k+1) a w hJ (by omega) ?_
    obtain ⟨ρ,M,N,hM,hlow,hfl,hrep,hst,hdef,hpend,hdist⟩:=hS
    have hpf:=hfl c o p hc hp hlc (by omega)
    subst hpf
    obtain ⟨t,z,d,h1,h2,h3,h4,h5,h6,h7⟩:=hpend c o hc hlc (by omega)
    obtain ⟨t',z',M1,g1,g2,g3,g4,g5,_⟩:=hflf hc
    rw [h1] at g1;injection g1 with g1;subst g1
    rw [h2] at g2;injection g2 with g2;subst g2
    rw [hck,hM] at g4;injection g4 with g4;subst g4
    rw [hck] at g5
    have hle:ρ.le (ρ.set M.length 0 (some ⟨N c,0,none⟩,z.cells.size)):=Env.le_set (hrep.mem.dom _ _ (Nat.le_refl _))
    refine ⟨ρ.set M.length 0 (some ⟨N c,0,none⟩,z.cells.size),_,N,g5,?_,?_,⟨hrep.size,fun s=>?_,hrep.mem.claim h5 (Jn9 ρ _) h7⟩,hst.claim hrep.mem h6 _ _ _,hdef,?_,?_⟩
    ·intro c' o' p' hc' hp' hlt
     by_cases he:Jb0 l c'=k
     ·rw [huniq hc' hc hp' rfl (he.trans hck.symm)];exact hlc
     ·exact hlow c' o' p' hc' hp' (by omega)
    ·intro c' o' p' hc' hp' hl' hge;exact hfl c' o' p' hc' hp' hl' (by omega)
    ·by_cases hs:o.dst=some s
     ·have hds:d=s:=by rw [h3] at hs;injection hs
      subst hds
      have hlast:Tm.get (Jh9 l (xsJ l xs listed (k+1)) (fun j=>listed.getD j false) tm l.length) d=.one (.ptr M.length 0 0):=by
       refine Ki6 hc h3 ?_ hlc _ (List.getElem?_eq_some_iff.1 hc).1 fun j o' p' hcj hj hl' hd'=>?_
       ·rw [Jo9 (List.getElem?_eq_some_iff.1 hc).1,g3,if_neg]
        ·rfl
        ·rw [hearly hc];omega
       ·obtain ⟨q1,q2⟩:=(hFl hc).2 j o' p' hl' (by omega) d h3 (by simp [Jn0,hd'])
        cases hlj:listed.getD j false with
        | false=>rfl
        | true =>
         exfalso
         have h8:=Jk8 hc rfl hcj
         have:=hfl j o' p' hl' q1 hlj (by omega)
         subst this
         cases q2
      rw [hlast,h4]
      exact ⟨_,_,Env.set_same _ _ _ _,by simp [Addr.add]⟩
     ·have:=(hrep.tm s).mono hle
      rw [Jq1 (xs':=xsJ l xs listed (k+1)) (sel':=fun j=>listed.getD j false) l.length (fun j o' p' hj hl' hd'=>⟨rfl,fun hlj=>?_⟩) (fun j hj=>⟨hxJsome _ _ j hj,hxJsome _ _ j hj⟩)] at this
      ·exact this
      ·have hjc:j≠c:=by rintro rfl;rw [hc] at hl';injection hl' with hl';injection hl' with e1 _;subst e1;exact hs hd'
       rw [Jo9 hj,Jo9 hj]
       have:Js3 l listed k j=Js3 l listed (k+1) j:=by
        rw [Bool.eq_iff_iff,hearly hl',hearly hl']
        constructor
        ·rintro ⟨q1,q2,q3⟩
         refine ⟨q1,q2,?_⟩
         rcases Nat.lt_or_ge k (Jb0 l j) with h|h
         ·omega
         ·exact absurd (huniq hl' hc q2 rfl (by omega)) hjc
        ·rintro ⟨q1,q2,q3⟩;exact ⟨q1,q2,by omega⟩
       rw [this]
    ·intro c' o' hc' hl' hge
     obtain ⟨t',z',d',q1,q2,q3,q4,q5,q6,q7⟩:=hpend c' o' hc' hl' (by omega)
     refine ⟨t',z',d',q1,q2,q3,q4,q5,q6,fun r bb x κ hb hne hx=>?_⟩
     rcases Nat.lt_trichotomy r M.length with hr|hr|hr
     ·rw [List.getElem?_append_left hr] at hb
      rw [Env.set_other ρ _ (by omega)] at hx
      exact q7 r bb x κ hb hne hx
     ·subst hr
      have hbb:bb.ver=0:=by simp at hb;rw [<-hb]
      rw [hbb,Env.set_same] at hx
      injection hx with hx;injection hx with hx _;injection hx with hx;subst hx
      exact hdist c c' o o' hc hc' hlc hl' (by omega) (by omega) (by rintro rfl;omega)
     ·rw [List.getElem?_eq_none (by simp;omega)] at hb;cases hb
    ·intro c1 c2 o1 o2 q1 q2 q3 q4 q5 q6 q7;exact hdist c1 c2 o1 o2 q1 q2 q3 q4 (by omega) (by omega) q7
   ·refine ⟨k,hS,fun c o p hc hp hk=>?_⟩
    cases hl:listed.getD c false with
    | false=>rfl
    | true=>exact absurd ⟨c,o,p,hc,hp,hk,hl⟩ hex
 have key:∀ (fuel:Nat) (listed:Array Bool) (a:Act) (w:World),Jn listed->(List.range l.length).countP (fun i=>!listed.getD i false)<=fuel ->
   (∃ k,St listed k a w/\∀ c o p,l[c]?=some (o,p)->p.chain=true->Jb0 l c=k->listed.getD c false=false) ->
   wpAny P .any (Jh7 l) Q fuel listed a w:=by
  intro fuel
  have hdone:∀ (listed:Array Bool) (a:Act) (w:World),Jn listed->(∀ i,i<l.length->listed.getD i false=true) ->
    (∃ k,St listed k a w/\∀ c o p,l[c]?=some (o,p)->p.chain=true->Jb0 l c=k->listed.getD c false=false)->Q .normal a w:=by
   rintro listed a w hJ hall ⟨k,⟨ρ,M,N,hM,hlow,hfl,hrep,hst,hdef,hpend,hdist⟩,hnorm⟩
   have hk2:k<=Jb0 l l.length:=hMl hM
   have hk:k=Jb0 l l.length:=by
    rcases Nat.lt_or_ge k (Jb0 l l.length) with hlt|hge
    ·obtain ⟨c,o,p,h1,h2,h3,h4⟩:=Qc9 l _ k hlt
     have:=hnorm c o p h2 h3 h4
     rw [hall c h1] at this;cases this
    ·omega
   subst hk
   rw [hM] at hmemF
   injection hmemF with hmemF
   subst hmemF
   refine hQ ρ tmF M a w ⟨hrep.size,fun t=>?_,hrep.mem⟩ hst hdef hK
   have:=hrep.tm t
   rw [Jq1 (xs':=xs) (sel':=fun _=>true) l.length (fun j o p hj hl' hd'=>⟨hall j hj,fun _=>?_⟩) (fun j hj=>⟨hxJsome _ _ j hj,hxsome j hj⟩)] at this
   ·rw [htmF];exact this
   ·obtain ⟨x,hx⟩:=Option.isSome_iff_exists.1 (hxsome j hj)
    rw [Jo9 hj,hx,if_neg]
    ·rfl
    ·rw [hearly hl']
     rintro ⟨_,q2,q3⟩
     have:=Jk8 hl' q2 hj
     omega
  have hready:∀ (listed:Array Bool),Jn listed->Region.ready .any (Jh7 l) listed=[]->∀ i,i<l.length->listed.getD i false=true:=by
   intro listed hJ hnil i
   induction i using Nat.strongRecOn with
   | _ i ih =>
    intro hi
    cases hl:listed.getD i false with
    | true=>rfl
    | false =>
     exfalso
     have hmem:i ∈ Region.ready .any (Jh7 l) listed:=by
      obtain ⟨o,p,hoi⟩:=hat i hi
      refine mem_ready.2 ⟨getD_in (by rw [hJ.1];exact hi) hl,o,hops' hoi,fun e he hbd=>?_⟩
      have:=hEdge hoi e he hbd
      exact ih e.on this (by omega)
     rw [hnil] at hmem
     cases hmem
  induction fuel with
  | zero =>
   intro listed a w hJ hcnt hst
   have hall:∀ i,i<l.length->listed.getD i false=true:=by
    intro i hi
    have h0:(List.range l.length).countP (fun i=>!listed.getD i false)=0:=by omega
    have:=(List.countP_eq_zero.1 h0) i (List.mem_range.2 hi)
    simpa using this
   refine ⟨?_,hdone listed a w hJ hall hst⟩
   apply List.eq_nil_iff_forall_not_mem.2
   intro i hi
   obtain ⟨h1,oi,h2,_⟩:=mem_ready.1 hi
   obtain ⟨p,hp⟩:=hops h2
   have:=hall i (List.getElem?_eq_some_iff.1 hp).1
   rw [getD_both h1] at this
   cases this
  | succ fuel ih =>
   intro listed a w hJ hcnt hst
   refine ⟨fun hnil=>hdone listed a w hJ (hready listed hJ hnil) hst,fun i hi=>?_⟩
   obtain ⟨hun,oi,hoi,hpre⟩:=mem_ready.1 hi
   obtain ⟨pi,hli⟩:=hops hoi
   have hil:=(List.getElem?_eq_some_iff.1 hli).1
   have hunF:listed.getD i false=false:=getD_both hun
   have hset:∀ j,(listed.setIfInBounds i true).getD j false=if j=i then true else listed.getD j false:=by
    intro j
    by_cases hj:j=i
    ·subst hj
     simp [Array.getD_eq_getD_getElem?,(by rw [hJ.1];exact hil:j<listed.size)]
    ·rw [if_neg hj]
     simp [Array.getD_eq_getD_getElem?,Array.getElem?_setIfInBounds_ne (fun e=>hj e.symm)]
   have hJ':Jn (listed.setIfInBounds i true):=by
    refine ⟨by simp [hJ.1],fun j o p hj hl e he hbd=>?_⟩
    rw [hset]
    split
    ·rfl
    ·rw [hset] at hl
     by_cases hji:j=i
     ·subst hji
      rw [hli] at hj;injection hj with hj;injection hj with hj _;subst hj
      exact hpre e he hbd
     ·rw [if_neg hji] at hl
      exact hJ.2 j o p hj hl e he hbd
   have hcnt':(List.range l.length).countP (fun j=>!(listed.setIfInBounds i true).getD j false)<=fuel:=by
    have:(List.range l.length).countP (fun j=>!(listed.setIfInBounds i true).getD j false)<(List.range l.length).countP (fun j=>!listed.getD j false):=by
     refine Kp3 (fun j _ hj=>?_) i (List.mem_range.2 hil) (by simp [hunF]) (by rw [hset];simp)
     rw [hset] at hj
     split at hj
     ·simp at hj
     ·exact hj
    omega
   obtain ⟨k,⟨ρ,M,N,hM,hlow,hfl,hrep,hstp,hdef,hpend,hdist⟩,hnorm⟩:=hst
   have hnext:∀ (k':Nat) (a':Act) (w':World),St (listed.setIfInBounds i true) k' a' w'->wpAny P .any (Jh7 l) Q fuel (listed.setIfInBounds i true) a' w':=by
    intro k' a' w' hS
    obtain ⟨k2,h1,h2⟩:=absorb _ _ k' a' w' hJ' (Nat.le_refl _) hS
    exact ih _ _ _ hJ' hcnt' ⟨k2,h1,h2⟩
   obtain ⟨x,M1,M2,hx,hM1,hM2,hop⟩:=hfacts i oi pi hli
   have hafter:∀ j o p,l[j]?=some (o,p)->Qh5 b j i=true->listed.getD j false=false:=by
    intro j o p hj hanc
    cases hl:listed.getD j false with
    | false=>rfl
    | true=>have:=hclosed hJ j o p hj hl i hil hanc;rw [hunF] at this;cases this
   have hbefore:∀ j,j<l.length->Qh5 b i j=true->listed.getD j false=true:=by
    intro j hj hanc
    obtain ⟨e,he,hbd,hor⟩:=hAnc hli j hj hanc
    have hel:=hpre e he hbd
    rcases hor with rfl|hor
    ·exact hel
    ·have hlt:=hEdge hli e he hbd
     obtain ⟨oe,pe,hoe⟩:=hat e.on (by omega)
     exact hclosed hJ e.on oe pe hoe hel j hj hor
   have hnames:∀ t,t ∈ Jn0 (Jh7 l) oi->∀ j o p,l[j]?=some (o,p)->o.dst=some t->j≠i->listed.getD j false=decide (j<i):=by
    intro t ht j o p hj hd hji
    have hjl:=(List.getElem?_eq_some_iff.1 hj).1
    rcases Nat.lt_or_gt_of_ne hji with hlt|hgt
    ·have hn:=Kc9 hN hj hli hlt
     have:Kd7 o (Jn0 (Jh7 l) oi)=true:=by simp [Kd7,hd,ht]
     simp only [this,Bool.true_or,Bool.not_true,Bool.false_or] at hn
     rw [hbefore j hjl hn];simp [hlt]
    ·have hn:=Kc9 hN hli hj hgt
     have:Kd7 o (Jn0 (Jh7 l) oi)=true:=by simp [Kd7,hd,ht]
     simp only [this,Bool.or_true,Bool.not_true,Bool.false_or] at hn
     rw [hafter j o p hj hn];simp;omega
   have hk_chain:pi.chain=true->pi.isFl=false->k=Jb0 l i:=by
    intro hp hnf
    have h1:k<=Jb0 l i:=by
     rcases Nat.lt_or_ge (Jb0 l i) k with hlt|hge
     ·have:=hlow i oi pi hli hp hlt;rw [hunF] at this;cases this
     ·exact hge
    rcases Nat.lt_or_ge k (Jb0 l i) with hlt|hge
    ·obtain ⟨c,o,p,h2,h3,h4,h5⟩:=Qc9 l i k hlt
     have hc:=Kc9 hC h3 hli h2
     simp only [h4,hp,hnf,Bool.and_self,Bool.not_false,Bool.and_true,Bool.true_or,Bool.not_true,Bool.false_or] at hc
     have h6:=hbefore c (by omega) hc
     rw [hnorm c o p h3 h4 h5] at h6;cases h6
    ·omega
   have hnoearly:∀ t,t ∈ Jn0 (Jh7 l) oi->∀ j o p,l[j]?=some (o,p)->o.dst=some t->j≠i->Js3 l listed k j=false:=by
    intro t ht j o p hj hd hji
    cases he:Js3 l listed k j with
    | false=>rfl
    | true =>
     exfalso
     obtain ⟨q1,q2,q3⟩:=(hearly hj).1 he
     have hpf:=hfl j o p hj q2 q1 q3
     subst hpf
     obtain ⟨r1,r2⟩:=(hFl hj).2 i oi pi hli (fun e=>hji e.symm) t hd ht
     have hkc:=hk_chain r1 r2
     have:=hnames t ht j o _ hj hd hji
     rw [q1] at this
     have hlt:j<i:=by simpa using this.symm
     have:=Jk8 hj rfl hlt
     omega
   have hlook:∀ t,t ∈ oi.looksAt (Jh7 l)->Tm.get (Jh9 l xs (fun _=>true) tm i) t=Tm.get (Jh9 l (xsJ l xs listed k) (fun j=>listed.getD j false) tm l.length) t:=by
    intro t ht
    rw [<-Vk9 l.length (by omega)]
    refine Jq1 _ (fun j o p hj hl hd=>?_) (fun j hj=>⟨hxsome j hj,hxJsome _ _ j hj⟩)
    by_cases hji:j=i
    ·subst hji;exact ⟨by simp [hunF],fun h=>by simp at h⟩
    ·refine ⟨(hnames t (List.mem_append_right _ ht) j o p hl hd hji).symm,fun _=>?_⟩
     obtain ⟨xj,hxj⟩:=Option.isSome_iff_exists.1 (hxsome j hj)
     rw [Jo9 hj,hnoearly t (List.mem_append_right _ ht) j o p hl hd hji,hxj]
     rfl
   have hch1:Jb0 l (i+1)=Jb0 l i+(if pi.chain=true then 1 else 0):=by
    simp only [Jb0,hli];split<;>simp
   have hfin:pi.isFl=false->∀ (ρ':Env) (k':Nat) (M':Ja1) (v:Value) (w':World),Ms[k']?=some M'->(k'=if pi.chain=true then k+1 else k)->VR ρ' x v->RepM ρ' M' w'->Step M ρ w M' ρ' w' ->
     wpAny P .any (Jh7 l) Q fuel (listed.setIfInBounds i true) (a.put oi.dst v) w':=by
    intro hnf ρ' k' M' v w' hM' hk' hv hm hs
    have hkk:k<=k':=by rw [hk'];split<;>omega
    have hearly_i:Js3 l (listed.setIfInBounds i true) k' i=false:=by
     cases he:Js3 l (listed.setIfInBounds i true) k' i with
     | false=>rfl
     | true =>
      exfalso
      obtain ⟨_,q2,q3⟩:=(hearly hli).1 he
      have:=hk_chain q2 hnf
      rw [hk',if_pos q2] at q3
      omega
    refine hnext k' _ _ ⟨ρ',M',N,hM',?_,?_,?_,hstp.trans hs,?_,?_,?_⟩
    ·intro c o p hc hp hlt
     rw [hset]
     split
     ·rfl
     ·rename_i hci
      split at hk'
      ·rename_i hpi
       have hkc:=hk_chain hpi hnf
       by_cases he:Jb0 l c=k
       ·exact absurd (huniq hc hli hp hpi (by omega)) hci
       ·exact hlow c o p hc hp (by omega)
      ·exact hlow c o p hc hp (by omega)
    ·intro c o p hc hp hlc hge
     rw [hset] at hlc
     split at hlc
     ·rename_i hci
      subst hci
      rw [hli] at hc;injection hc with hc;injection hc with _ hc;subst hc
      rw [if_pos hp] at hk'
      have:=hk_chain hp hnf
      omega
     ·exact hfl c o p hc hp hlc (by omega)
    ·have hrep':Rep ρ' nt (putO oi.dst x (Jh9 l (xsJ l xs listed k) (fun j=>listed.getD j false) tm l.length)) M' (a.put oi.dst v) w' :=
      (hrep.step hs hm).putO (List.all_eq_true.1 hD (oi,pi) (List.mem_of_getElem? hli)) hv
     refine ⟨hrep'.size,fun t=>?_,hm⟩
     have:=hrep'.tm t
     rw [Kd8] at this
     have e:Tm.get (Jh9 l (xsJ l xs (listed.setIfInBounds i true) k') (fun j=>(listed.setIfInBounds i true).getD j false) tm l.length) t=if oi.dst=some t then x else Tm.get (Jh9 l (xsJ l xs listed k) (fun j=>listed.getD j false) tm l.length) t:=by
      split
      ·rename_i hd
       refine Ki6 hli hd (by rw [Jo9 hil,hearly_i,hx];rfl) (by rw [hset];simp) _ hil fun j o p hij hj hl hdj=>?_
       rw [hset,if_neg (by omega),hnames t (by simp [Jn0,hd]) j o p hl hdj (by omega)]
       simp;omega
      ·rename_i hd
       refine Jq1 _ (fun j o p hj hl hdj=>?_) (fun j hj=>⟨hxJsome _ _ j hj,hxJsome _ _ j hj⟩)
       have hji:j≠i:=by rintro rfl;rw [hli] at hl;injection hl with hl;injection hl with hl _;subst hl;exact hd hdj
       rw [hset,if_neg hji]
       refine ⟨rfl,fun hlj=>?_⟩
       rw [Jo9 hj,Jo9 hj]
       have:Js3 l (listed.setIfInBounds i true) k' j=Js3 l listed k j:=by
        rw [Bool.eq_iff_iff,hearly hl,hearly hl,hset,if_neg hji]
        constructor
        ·rintro ⟨q1,q2,q3⟩;exact ⟨q1,q2,by omega⟩
        ·rintro ⟨q1,q2,q3⟩
         refine ⟨q1,q2,?_⟩
         rw [hk']
         split
         ·rcases Nat.lt_or_ge k (Jb0 l j) with h|h
          ·omega
          ·have:=hnorm j o p hl q2 (by omega)
           rw [q1] at this;cases this
         ·exact q3
       rw [this]
     rw [e];exact this
    ·rw [<-hdef];cases oi.dst<;>rfl
    ·intro c o hc hlc hge
     rw [hset] at hlc
     have hci:c≠i:=by rintro rfl;rw [hli] at hc;injection hc with hc;injection hc with _ hc;rw [hc] at hnf;cases hnf
     rw [if_neg hci] at hlc
     obtain ⟨t,z,d,q1,q2,q3,q4,q5,q6,q7⟩:=hpend c o hc hlc (by omega)
     have hNlt:N c<w.heap.size:=(Array.getElem?_eq_some_iff.1 q5).1
     refine ⟨t,z,d,q1,q2,q3,?_,?_,q6,?_⟩
     ·have hne:oi.dst≠some d:=by
       intro hd
       have:=hnoearly d (by simp [Jn0,hd]) c o _ hc q3 hci
       have h8:=(hearly (listed:=listed) (k:=k) hc).2 ⟨hlc,rfl,by omega⟩
       rw [this] at h8;cases h8
      rw [<-q4]
      cases hdd:oi.dst with
      | none=>rfl
      | some d' =>
       have:d'≠d:=fun e=>hne (by rw [hdd,e])
       simp [Act.put,Array.getD_eq_getD_getElem?,Array.getElem?_setIfInBounds_ne this]
     ·rw [hs.frame (N c) hNlt]
      ·exact q5
      ·intro r bb x κ hb hk hx
       exact q7 r bb x κ hb (fun e=>absurd e hk) hx
     ·intro r bb x' κ hb hne hx'
      by_cases hro:bb.kind=.ro
      ·have h8:=hs.ro r bb hb hro
       obtain ⟨A,k0,h9,_⟩:∃ A k0,ρ r bb.ver=some (A,k0)/\True:=by
        have:=hrep.mem.blk r bb h8
        unfold BlkR at this
        rw [hro] at this
        obtain ⟨A,k0,h,_⟩:=this
        exact ⟨A,k0,h,trivial⟩
       have h10:=hs.ext r (List.getElem?_eq_some_iff.1 h8).1 _ _ h9
       rw [h10] at hx'
       exact q7 r bb x' κ h8 hne (by rw [h9];exact hx')
      ·rcases hs.fresh r bb x' κ hb hro hx' with h8|⟨s,b0,y,l0,h8,h9,h10,h11⟩
       ·omega
       ·rw [<-h11];exact q7 s b0 y l0 h8 (fun e=>absurd e h9) h10
    ·intro c1 c2 o1 o2 q1 q2 q3 q4 q5 q6 q7
     have n1:c1≠i:=by rintro rfl;rw [hli] at q1;injection q1 with q1;injection q1 with _ q1;rw [q1] at hnf;cases hnf
     have n2:c2≠i:=by rintro rfl;rw [hli] at q2;injection q2 with q2;injection q2 with _ q2;rw [q2] at hnf;cases hnf
     rw [hset,if_neg n1] at q3
     rw [hset,if_neg n2] at q4
     exact hdist c1 c2 o1 o2 q1 q2 q3 q4 (by omega) (by omega) q7
   unfold wpOp
   rw [hoi]
   simp only
   have hwant:=Kt4 (ops:=Jh7 l) (o:=oi) hlook
   cases hisf:pi.isFl with
   | true =>
    have hpf:=hisFl hisf
    subst hpf
    obtain ⟨t,z,M1',g1,g2,g3,g4,g5,g6⟩:=hflf hli
    have hw:Region.wanted oi (yielded (Jh7 l) a.tmps)=true:=by simp [Region.wanted,g6]
    rw [if_pos hw]
    refine .inl ?_
    have hexec:(execOp a.eval oi).run P w=.ok (.value (.pointer (some ⟨w.heap.size,0,none⟩))) (w.alloc (.cells z.cells t)):=by
     rw [Qo6 g1]
     simp only [Instr.alloc,Sem.run_bind,Jh6 P g2,Result.andThen_ok,newVar,newRow,run_newObj,Sem.run_pure]
     rfl
    unfold Oper.wp
    rw [hexec,Oper.upon_value]
    obtain ⟨d,hd⟩:=(hFl hli).1
    have hdlt:d<nt:=by
     have:=List.all_eq_true.1 hD (oi,.fl) (List.mem_of_getElem? hli)
     simpa [Jz6,hd] using this
    obtain ⟨hm',hs'⟩:=hrep.mem.garbage (.cells z.cells t)
    have hki:k<=Jb0 l i:=by
     rcases Nat.lt_or_ge (Jb0 l i) k with hlt|hge
     ·have:=hlow i oi _ hli rfl hlt;rw [hunF] at this;cases this
     ·exact hge
    have hNlt:∀ c o,l[c]?=some (o,Plan.fl)->listed.getD c false=true->k<=Jb0 l c->N c<w.heap.size:=by
     intro c o hc hlc hge
     obtain ⟨_,_,_,_,_,_,_,q5,_⟩:=hpend c o hc hlc hge
     exact (Array.getElem?_eq_some_iff.1 q5).1
    refine hnext k _ _ ⟨ρ,M,fun c=>if c=i then w.heap.size else N c,hM,?_,?_,?_,hstp.trans hs',?_,?_,?_⟩
    ·intro c o p hc hp hlt
     rw [hset]
     split
     ·rfl
     ·exact hlow c o p hc hp hlt
    ·intro c o p hc hp hlc hge
     rw [hset] at hlc
     split at hlc
     ·rename_i hci;subst hci;rw [hli] at hc;injection hc with hc;injection hc with _ hc;exact hc.symm
     ·exact hfl c o p hc hp hlc hge
    ·have hrep':Rep ρ nt (putO oi.dst (.one .junk) (Jh9 l (xsJ l xs listed k) (fun j=>listed.getD j false) tm l.length)) M (a.put oi.dst (.pointer (some ⟨w.heap.size,0,none⟩))) (w.alloc (.cells z.cells t)) :=
      (hrep.step hs' hm').putO (List.all_eq_true.1 hD (oi,.fl) (List.mem_of_getElem? hli)) trivial
     refine ⟨hrep'.size,fun t'=>?_,hm'⟩
     have:=hrep'.tm t'
     rw [Kd8] at this
     have e:Tm.get (Jh9 l (xsJ l xs (listed.setIfInBounds i true) k) (fun j=>(listed.setIfInBounds i true).getD j false) tm l.length) t'=if oi.dst=some t' then .one .junk else Tm.get (Jh9 l (xsJ l xs listed k) (fun j=>listed.getD j false) tm l.length) t':=by
      split
      ·rename_i hd'
       refine Ki6 hli hd' (by rw [Jo9 hil,if_pos];rw [hearly hli,hset];simp [Plan.chain,hki]) (by rw [hset];simp) _ hil fun j o p hij hj hl hdj=>?_
       rw [hset,if_neg (by omega),hnames t' (by simp [Jn0,hd']) j o p hl hdj (by omega)]
       simp;omega
      ·rename_i hd'
       refine Jq1 _ (fun j o p hj hl hdj=>?_) (fun j hj=>⟨hxJsome _ _ j hj,hxJsome _ _ j hj⟩)
       have hji:j≠i:=by rintro rfl;rw [hli] at hl;injection hl with hl;injection hl with hl _;subst hl;exact hd' hdj
       rw [hset,if_neg hji]
       refine ⟨rfl,fun hlj=>?_⟩
       rw [Jo9 hj,Jo9 hj]
       have:Js3 l (listed.setIfInBounds i true) k j=Js3 l listed k j:=by
        rw [Bool.eq_iff_iff,hearly hl,hearly hl,hset,if_neg hji]
       rw [this]
     rw [e];exact this
    ·rw [<-hdef];cases oi.dst<;>rfl
    ·intro c o hc hlc hge
     rw [hset] at hlc
     by_cases hci:c=i
     ·subst hci
      rw [hli] at hc;injection hc with hc;injection hc with hc _;subst hc
      refine ⟨t,z,d,g1,g2,hd,?_,?_,?_,?_⟩
      ·simp only [if_true]
       rw [hd]
       have hda:d<a.tmps.size:=Nat.lt_of_lt_of_le hdlt hrep.size
       simp [Act.put,Array.getD_eq_getD_getElem?,hda]
      ·simp only [if_true];exact heap_alloc_new w _
      ·simp only [if_true];exact hstp.size
      ·simp only [if_true]
       intro r bb x' κ hb hne hx'
       have:=(hrep.mem.blk r bb hb).lt hx' hne
       omega
     ·rw [if_neg hci] at hlc
      obtain ⟨t',z',d',q1,q2,q3,q4,q5,q6,q7⟩:=hpend c o hc hlc hge
      refine ⟨t',z',d',q1,q2,q3,?_,?_,?_,?_⟩
      ·simp only [if_neg hci]
       have hne:d≠d':=by
        rintro rfl
        obtain ⟨_,r2⟩:=(hFl hli).2 c o _ hc hci d hd (by simp [Jn0,q3])
        cases r2
       rw [hd,<-q4]
       simp [Act.put,Array.getD_eq_getD_getElem?,Array.getElem?_setIfInBounds_ne hne]
      ·simp only [if_neg hci]
       rw [Jz1 w _ _ (Array.getElem?_eq_some_iff.1 q5).1];exact q5
      ·simp only [if_neg hci];exact q6
      ·simp only [if_neg hci];exact q7
    ·intro c1 c2 o1 o2 q1 q2 q3 q4 q5 q6 q7
     rw [hset] at q3 q4
     by_cases n1:c1=i
     ·have n2:c2≠i:=fun e=>q7 (n1.trans e.symm)
      rw [if_neg n2] at q4
      have:=hNlt c2 o2 q2 q4 q6
      simp only [if_pos n1,if_neg n2];omega
     ·by_cases n2:c2=i
      ·rw [if_neg n1] at q3
       have:=hNlt c1 o1 q1 q3 q5
       simp only [if_neg n1,if_pos n2];omega
      ·rw [if_neg n1] at q3;rw [if_neg n2] at q4
       simp only [if_neg n1,if_neg n2]
       exact hdist c1 c2 o1 o2 q1 q2 q3 q4 q5 q6 q7
   | false =>
   rcases hop with ⟨hw,hx0,hMM⟩|⟨hw,hop⟩
   ·rw [hwant] at hw
    rw [if_neg (by rw [Jp6 hrep hw];simp)]
    subst hx0;subst hMM
    by_cases hp:pi.chain=true
    ·have hkc:=hk_chain hp hisf
     rw [hkc] at hM
     rw [hM1] at hM;injection hM with hM;subst hM
     refine hfin hisf ρ (k+1) M2 undef w ?_ (by rw [if_pos hp]) rfl hrep.mem (Step.refl _ _ _)
     rw [hch1,if_pos hp,<-hkc] at hM2;exact hM2
    ·exact hfin hisf ρ k M undef w hM (by rw [if_neg hp]) rfl hrep.mem (Step.refl _ _ _)
   ·rw [hwant] at hw
    rw [if_pos (Jp6 hrep hw)]
    refine .inl ?_
    have hoc:=Vc8 (ops:=Jh7 l) (o:=oi) hlook
    have hdoes:∃ k' M',Ms[k']?=some M'/\(k'=if pi.chain=true then k+1 else k)/\Does P oi (opd (Jh9 l xs (fun _=>true) tm i)) M x M':=by
     cases hp:pi with
     | val =>
      rw [hp] at hop
      exact ⟨k,M,hM,rfl,Jv9 (Vg9 hop.2 M)⟩
     | rd lo =>
      rw [hp] at hop
      obtain ⟨_,t,y,ML,hopl,hlo,hload⟩:=hop
      have hLi:=List.all_eq_true.1 hL i (List.mem_range.2 hil)
      rw [hli,hp] at hLi
      simp only at hLi
      have hLc:∀ c o p,l[c]?=some (o,p)->(p.chain=true->Jb0 l c<lo->Qh5 b i c=true)/\(p.isWr=true->c<i->Jb0 l c<lo)/\(∀ q,p=.up q->q<=Jb0 l c/\(Jb0 l c<lo\/(i<c/\Qh5 b c i=true)\/lo<=q)):=by
       intro c o p hc
       have:=List.all_eq_true.1 hLi c (List.mem_range.2 (List.getElem?_eq_some_iff.1 hc).1)
       rw [hc] at this
       rw [Bool.and_eq_true] at this
       obtain ⟨this,hup⟩:=this
       simp only [Bool.and_eq_true,Bool.or_eq_true,Bool.not_eq_true',Bool.and_eq_false_iff,decide_eq_false_iff_not,decide_eq_true_eq] at this
       refine ⟨fun h1 h2=>?_,fun h1 h2=>?_,fun q hq=>?_⟩
       ·rcases this.1 with (h|h)|h
        ·rw [h1] at h;cases h
        ·exact absurd h2 h
        ·exact h
       ·rcases this.2 with (h|h)|h
        ·rw [h1] at h;cases h
        ·exact absurd h2 h
        ·exact h
       ·subst hq
        simp only [Bool.and_eq_true,Bool.or_eq_true,decide_eq_true_eq] at hup
        refine ⟨hup.1,?_⟩
        rcases hup.2 with (h|h)|h
        ·exact .inl h
        ·exact .inr (.inl h)
        ·exact .inr (.inr h)
      have hext:∀ q,lo<=q->q<=k->∀ Mq,Ms[q]?=some Mq->∀ (r:Nat) (b:Blk),ML[r]?=some b->Mq[r]?=some b:=by
       intro q
       induction q using Nat.strongRecOn with
       | _ q ihq =>
        intro hlq hqk Mq hMq r bb hbb
        by_cases hql:q=lo
        ·subst hql;rw [hlo] at hMq;injection hMq with e;rw [<-e];exact hbb
        ·obtain ⟨q',rfl⟩:∃ q',q=q'+1:=⟨q - 1,by omega⟩
         have hlt:q'<Jb0 l l.length:=by have:=hMl hMq;omega
         obtain ⟨c,o,p,h1,h2,h3,h4⟩:=Qc9 l _ q' hlt
         obtain ⟨x',Mc,Mc',g1,g2,g3,g4⟩:=hfacts c o p h2
         have hc1:Jb0 l (c+1)=Jb0 l c+1:=by simp only [Jb0,h2,h3,if_true]
         rw [hc1,h4,hMq] at g3
         injection g3 with g3;subst g3
         rw [h4] at g2
         have hold:=ihq q' (by omega) (by omega) (by omega) Mc g2 r bb hbb
         have hlc:listed.getD c false=true:=hlow c o p h2 h3 (by omega)
         have hnw:p.isWr=false:=by
          cases hw':p.isWr with
          | false=>rfl
          | true =>
           exfalso
           have hci:c≠i:=by rintro rfl;rw [hli] at h2;injection h2 with h2;injection h2 with _ h2;rw [<-h2,hp] at hw';cases hw'
           rcases Nat.lt_or_gt_of_ne hci with hlt'|hgt'
           ·have:=(hLc c o p h2).2.1 hw' hlt';omega
           ·have hc:=Kc9 hC hli h2 hgt'
            simp only [hp,Plan.isRd,hw',Bool.and_self,Bool.or_true,Bool.not_true,Bool.false_or] at hc
            have:=hafter c o p h2 hc
            rw [hlc] at this;cases this
         rcases g4 with ⟨_,_,e⟩|⟨_,g4⟩
         ·subst e;exact hold
         ·cases p with
          | val=>cases h3
          | rd lo=>cases h3
          | rw lo=>cases h3
          | wr=>cases hnw
          | ext=>obtain ⟨⟨ex',e⟩,_⟩:=g4;rw [e];exact Ja4 hold ex'
          | fl=>obtain ⟨_,_,_,_,_,_,e⟩:=g4;rw [e];exact Ja4 hold _
          | up q0 =>
           obtain ⟨⟨A,hA,hAr⟩,_⟩:=g4
           obtain ⟨hq0,hor⟩:=(hLc c o _ h2).2.2 q0 rfl
           have hloq:lo<=q0:=by
            rcases hor with h|h|h
            ·omega
            ·have:=hafter c o _ h2 h.2
             rw [hlc] at this;cases this
            ·exact h
           have hAb:=ihq q0 (by omega) hloq (by omega) A hA r bb hbb
           rw [hAr r (List.getElem?_eq_some_iff.1 hAb).1]
           exact hold
      have hlok:lo<=k:=by
       rcases Nat.lt_or_ge k lo with hlt|hge
       ·exfalso
        have hlt':k<Jb0 l l.length:=by have:=hMl hlo;omega
        obtain ⟨c,o,p,h1,h2,h3,h4⟩:=Qc9 l _ k hlt'
        have h6:=hbefore c h1 ((hLc c o p h2).1 h3 (by omega))
        rw [hnorm c o p h2 h3 h4] at h6;cases h6
       ·exact hge
      refine ⟨k,_,hM,rfl,Jv9 ?_⟩
      rw [hopl]
      simp only [Ji0,Qs2 hload (hext k hlok (Nat.le_refl _) M hM),Option.map_some]
     | rw lo =>
      rw [hp] at hop
      obtain ⟨_,t,y,ML,r,ver,off,hopl,hlo,hy,hload,hin⟩:=hop
      have hRi:=List.all_eq_true.1 hR i (List.mem_range.2 hil)
      rw [hli,hp] at hRi
      simp only at hRi
      have hLc:∀ c o p,l[c]?=some (o,p)->p.chain=true->Jb0 l c<lo->Qh5 b i c=true:=by
       intro c o p hc h1 h2
       have:=List.all_eq_true.1 hRi c (List.mem_range.2 (List.getElem?_eq_some_iff.1 hc).1)
       rw [hc] at this
       simp only [Bool.or_eq_true,Bool.not_eq_true',Bool.and_eq_false_iff,decide_eq_false_iff_not] at this
       rcases this with (h|h)|h
       ·rw [h1] at h;cases h
       ·exact absurd h2 h
       ·exact h
      have hlok:lo<=k:=by
       rcases Nat.lt_or_ge k lo with hlt|hge
       ·exfalso
        have hlt':k<Jb0 l l.length:=by have:=hMl hlo;omega
        obtain ⟨c,o,p,h1,h2,h3,h4⟩:=Qc9 l _ k hlt'
        have h6:=hbefore c h1 (hLc c o p h2 h3 (by omega))
        rw [hnorm c o p h2 h3 h4] at h6;cases h6
       ·exact hge
      obtain ⟨bb,hbb⟩:=hWt _ hin
      have e1:ML[r]?=some bb:=hbb ML (List.mem_of_getElem? (i:=0) (by rw [List.getElem?_drop];simpa using hlo))
      have e2:M[r]?=some bb:=hbb M (List.mem_of_getElem? (i:=k - lo) (by rw [List.getElem?_drop];simpa [Nat.add_sub_cancel' hlok] using hM))
      refine ⟨k,_,hM,rfl,Jv9 ?_⟩
      rw [hopl]
      have e3:Jt3 P t (opd (Jh9 l xs (fun _=>true) tm i) y) M=some x:=by
       rw [hy];rw [<-hload];simp only [Jt3,e1,e2]
      simp only [Ji0,e3,Option.map_some]
     | fl=>rw [hp] at hisf;cases hisf
     | ext =>
      have hkc:=hk_chain (by rw [hp];rfl) hisf
      rw [hp] at hop hch1
      rw [hkc] at hM
      rw [hM1] at hM;injection hM with hM;subst hM
      refine ⟨k+1,M2,?_,rfl,hop.2⟩
      simp only [Plan.chain,if_true] at hch1
      rw [hch1,<-hkc] at hM2;exact hM2
     | up q =>
      have hkc:=hk_chain (by rw [hp];rfl) hisf
      rw [hp] at hop hch1
      rw [hkc] at hM
      rw [hM1] at hM;injection hM with hM;subst hM
      refine ⟨k+1,M2,?_,rfl,hop.2⟩
      simp only [Plan.chain,if_true] at hch1
      rw [hch1,<-hkc] at hM2;exact hM2
     | wr =>
      have hkc:=hk_chain (by rw [hp];rfl) hisf
      rw [hp] at hop hch1
      rw [hkc] at hM
      rw [hM1] at hM;injection hM with hM;subst hM
      refine ⟨k+1,M2,?_,rfl,hop⟩
      simp only [Plan.chain,if_true] at hch1
      rw [hch1,<-hkc] at hM2;exact hM2
    obtain ⟨k',M',hMk',hk',hdo⟩:=hdoes
    exact Qt8 (hdo.congr hoc) hrep fun ρ' v w' hv hm hs=>hfin hisf ρ' k' M' v w' hMk' hk' hv hm hs
 refine key _ _ _ _ ⟨by simp [hsz],fun j o p hj hl=>?_⟩ ?_ ⟨0,⟨ρ0,mem,fun _=>0,?_,?_,?_,?_,Step.refl _ _ _,rfl,?_,?_⟩,?_⟩
 ·rw [getD_replicate_false] at hl;cases hl
 ·rw [hsz]
  exact Nat.le_trans List.countP_le_length (by simp)
 ·obtain ⟨t,ht⟩:=Ke8 hrun
  rw [ht];rfl
 ·intro c o p hc hp hlt;omega
 ·intro c o p hc hp hl;rw [getD_replicate_false] at hl;cases hl
 ·refine ⟨hr0.size,fun t=>?_,hr0.mem⟩
  have:∀ (ys:List AV) n,Jh9 l ys (fun j=>(Array.replicate (Jh7 l).size false).getD j false) tm n=tm:=by
   intro ys n
   induction n with
   | zero=>rfl
   | succ n ih =>
    simp only [Jh9,getD_replicate_false]
    simp only [getD_replicate_false] at ih
    split
    ·simpa using ih
    ·exact ih
  rw [this];exact hr0.tm t
 ·intro c o hc hl;rw [getD_replicate_false] at hl;cases hl
 ·intro c c' o o' _ _ hl;rw [getD_replicate_false] at hl;cases hl
 ·intro c o p _ _ _;exact getD_replicate_false _ _
theorem Rep.drew {ρ:Env}{nt:Nat}{tm:Tm}{mem:Ja1}{a:Act}{w:World}(h:Rep ρ nt tm mem a w):Rep ρ nt tm mem a { w with drawn:=w.drawn+1 } :=
 ⟨h.size,h.tm,⟨fun r b hb=>(h.mem.blk r b hb).heap (Nat.le_refl _) fun _ _ _ _ _=>rfl,h.mem.dom,h.mem.domv,h.mem.sep⟩⟩
theorem AW.draw {nt id:Nat}{l:List Oper}{tm:Tm}{mem:Ja1}{Q:Exit->Tm->Ja1->Prop}(pl:List Plan)(hf:P.follows .mixedOrders=true)(hl:pl.length=l.length)(hp:Jx6 nt (l.zip pl)=true)
  (h:AOpsD P l.toArray (l.zip pl) tm mem [mem] [] (Q .normal)):AW P nt (.region id l.toArray true) tm mem Q:=by
 intro ρ a w hr
 have he:l.toArray=Jh7 (l.zip pl):=by
  unfold Jh7
  rw [show (fun x:Oper × Plan=>x.1)=Prod.fst from rfl,List.map_fst_zip (by omega)]
 rw [he] at h ⊢
 refine wp_region_any hf ?_
 refine Kp8 hp h hr.drew fun ρ' tm' mem' a' w' r s d k=>⟨ρ',tm',mem',r,⟨s.os,s.tape,s.output,s.size,s.len,s.ext,s.kind,s.ro,s.frame,s.fresh⟩,d,k⟩
end
theorem eqV_s {P:Program}{d:Nat}{t:TypeId}{x y:AV}:eqV P (d+1) t x y=match P.underlying t,x,y with
  | some .bool,.one (.bool a),.one (.bool b)=>some (a ==b)
  | some (.int _),.one (.int k a),.one (.int k' b)=>if k=k' then some (a ==b) else none
  | some .string,.one (.str a),.one (.str b)=>some (a.toList ==b.toList)
  | some (.struct fs),.agg xs,.agg ys =>
   if P.stoodInHeld t = false ∧ (fs.toList.all fun f => f.name != "_") = true then Jp1 P (eqV P d) xs ys (fs.toList.map fun f => (f.type, f.offset)) else none
  | some (.array n e),.agg xs,.agg ys=>match Jf5 P e with
   | some k=>Jp1 P (eqV P d) xs ys ((List.range' 0 n).map fun i=>(e,i*k))
   | none=>none
  | _,_,_=>none:=by rfl
theorem Vh6 (p1 p2 p3:Prop):(p1/\p2/\p3)\/(p1/\p2/\¬p3)\/(p1/\¬p2/\True)\/(¬p1/\True/\True):=by
 rcases Classical.em p1 with h|h<;>rcases Classical.em p2 with h'|h'<;>rcases Classical.em p3 with h''|h''<;>simp [h,h',h'']
theorem Kh1 (p1 p2 p3 p4:Prop):(p1/\p2/\p3/\p4)\/(p1/\p2/\p3/\¬p4)\/(p1/\p2/\¬p3/\True)\/(p1/\¬p2/\True/\True)\/(¬p1/\True/\True/\True):=by
 rcases Classical.em p1 with h|h<;>rcases Vh6 p2 p3 p4 with h'|h'|h'|h'<;>simp [h,h']
theorem Qp2 (p1 p2 p3 p4 p5:Prop):(p1/\p2/\p3/\p4/\p5)\/(p1/\p2/\p3/\p4/\¬p5)\/(p1/\p2/\p3/\¬p4/\True)\/(p1/\p2/\¬p3/\True/\True)\/(p1/\¬p2/\True/\True/\True)\/(¬p1/\True/\True/\True/\True):=by
 rcases Classical.em p1 with h|h<;>rcases Kh1 p2 p3 p4 p5 with h'|h'|h'|h'|h'<;>simp [h,h']
section
variable {P:Program}
def Vi6 (P:Program)(ops:Array Oper)(rest:List Oper)(d:Option Tmp)(tm:Tm)(K:Tm->Ja1->Prop)(r:Option (AV × Ja1)):Prop :=
 match r with
 | some (x,mem')=>AOps P ops rest (putO d x tm) mem' K
 | none=>False
def Vi9 (P:Program)(ops:Array Oper)(rest:List Oper)(d:Option Tmp)(tm:Tm)(K:Tm->Ja1->Prop)(r:Option Ja1):Prop :=
 match r with
 | some mem'=>AOps P ops rest (putO d (.one .und) tm) mem' K
 | none=>False
def CThen (P:Program)(ops:Array Oper)(rest:List Oper)(d:Option Tmp)(tm:Tm)(K:Tm->Ja1->Prop)(g:FuncId)(args:List AV)(mem:Ja1):Prop :=
 ∃ ret mem',Ctr P g args mem ret mem'/\AOps P ops rest (putO d ret tm) mem' K
def Qh8 (P:Program)(ops:Array Oper)(rest:List Oper)(d:Option Tmp)(tm:Tm)(K:Tm->Ja1->Prop)(f:AV)(args:List AV)(mem:Ja1):Prop :=
 match f with
 | .one (.fn g cs)=>CThen P ops rest d tm K g (args++Ji9 cs) mem
 | .one (.bm g cs)=>CThen P ops rest d tm K g (.agg (cs.map SV.cv)::args) mem
 | _=>False
def Vw8 (P:Program)(ops:Array Oper)(rest:List Oper)(o:Oper)(tm:Tm)(mem:Ja1)(K:Tm->Ja1->Prop)(g:Option Bool):Prop :=
 match g with
 | some true=>AOps P ops ({ o with guard:=none }::rest) tm mem K
 | some false=>AOps P ops rest (putO o.dst (.one .und) tm) mem K
 | none=>False
def Qu5 (P:Program)(ops:Array Oper)(rest:List Oper)(d:Option Tmp)(tm:Tm)(mem:Ja1)(K:Tm->Ja1->Prop)(op:Op):Prop :=
 match op with
 | .store t x y=>Vi9 P ops rest d tm K (Jx2 P t (opd tm x) (opd tm y) mem)
 | .call ⟨.value f,args,_⟩=>Qh8 P ops rest d tm K (opd tm f) (args.toList.map (opd tm)) mem
 | op=>Vi6 P ops rest d tm K (Ji0 P (opd tm) mem op)
theorem Vx3 {ops:Array Oper}{tm:Tm}{mem:Ja1}{K:Tm->Ja1->Prop}:AOps P ops [] tm mem K=K tm mem:=rfl
theorem Ky0 {ops:Array Oper}{rest:List Oper}{d:Option Tmp}{op:Op}{t:TypeId}{pos:String}{af:Array Edge}{tm:Tm}{mem:Ja1}{K:Tm->Ja1->Prop} :
  AOps P ops (⟨d,op,t,pos,af,none⟩::rest) tm mem K=Qu5 P ops rest d tm mem K op:=by
 simp only [AOps,Jh3,Qu5]
 split
 ·simp only [Vi9]<;>rfl
 ·simp only [Qh8,CThen]<;>rfl
 ·simp only [Vi6]<;>split<;>simp_all
theorem Qq0 {ops:Array Oper}{rest:List Oper}{d:Option Tmp}{op:Op}{t:TypeId}{pos:String}{af:Array Edge}{g:Nat × Bool}{tm:Tm}{mem:Ja1}{K:Tm->Ja1->Prop} :
  AOps P ops (⟨d,op,t,pos,af,some g⟩::rest) tm mem K=Vw8 P ops rest ⟨d,op,t,pos,af,some g⟩ tm mem K (Jh3 ops ⟨d,op,t,pos,af,some g⟩ tm):=by
 simp only [Vw8]
 generalize hw:Jh3 ops ⟨d,op,t,pos,af,some g⟩ tm=w
 rw [AOps]
 rw [hw]
 cases w with
 | none=>rfl
 | some b=>cases b<;>rfl
theorem Qu2 {ops:Array Oper}{rest:List Oper}{d:Option Tmp}{tm:Tm}{K:Tm->Ja1->Prop}{x:AV}{mem':Ja1}:Vi6 P ops rest d tm K (some (x,mem'))=AOps P ops rest (putO d x tm) mem' K:=rfl
theorem Qu4 {ops:Array Oper}{rest:List Oper}{d:Option Tmp}{tm:Tm}{K:Tm->Ja1->Prop}{mem':Ja1}:Vi9 P ops rest d tm K (some mem')=AOps P ops rest (putO d (.one .und) tm) mem' K:=rfl
theorem Vw9 {ops:Array Oper}{rest:List Oper}{d:Option Tmp}{tm:Tm}{K:Tm->Ja1->Prop}{g:FuncId}{cs:List (Nat × Nat × Nat)}{args:List AV}{mem:Ja1} :
  Qh8 P ops rest d tm K (.one (.fn g cs)) args mem=CThen P ops rest d tm K g (args++Ji9 cs) mem:=rfl
theorem Vx0 {ops:Array Oper}{rest:List Oper}{d:Option Tmp}{tm:Tm}{K:Tm->Ja1->Prop}{g:FuncId}{cs:List SV}{args:List AV}{mem:Ja1} :
  Qh8 P ops rest d tm K (.one (.bm g cs)) args mem=CThen P ops rest d tm K g (.agg (cs.map SV.cv)::args) mem:=rfl
theorem Qu6 {ops:Array Oper}{rest:List Oper}{d:Option Tmp}{op:Op}{t:TypeId}{pos:String}{af:Array Edge}{g:Option (Nat × Bool)}{tm:Tm}{mem:Ja1}{K:Tm->Ja1->Prop} :
  Vw8 P ops rest ⟨d,op,t,pos,af,g⟩ tm mem K (some true)=Qu5 P ops rest d tm mem K op:=Ky0
theorem Qh7 {ops:Array Oper}{rest:List Oper}{d:Option Tmp}{op:Op}{t:TypeId}{pos:String}{af:Array Edge}{g:Option (Nat × Bool)}{tm:Tm}{mem:Ja1}{K:Tm->Ja1->Prop} :
  Vw8 P ops rest ⟨d,op,t,pos,af,g⟩ tm mem K (some false)=AOps P ops rest (putO d (.one .und) tm) mem K:=rfl
theorem CThen.by {ops:Array Oper}{rest:List Oper}{d:Option Tmp}{tm:Tm}{K:Tm->Ja1->Prop}{g:FuncId}{args:List AV}{mem mem':Ja1}{ret:AV}(h:Ctr P g args mem ret mem')
  (h2:AOps P ops rest (putO d ret tm) mem' K):CThen P ops rest d tm K g args mem:=⟨ret,mem',h,h2⟩
def DVal (P:Program)(ops:Array Oper)(rest:Pl)(d:Option Tmp)(tm:Tm)(cur:Ja1)(hist:List Ja1)(ws:List (Nat × Nat))(K:Tm->Ja1->Prop)(r:Option (AV × Ja1)):Prop :=
 match r with
 | some (x,[])=>AOpsD P ops rest (putO d x tm) cur hist ws K
 | _=>False
def Xr4 (P:Program)(ops:Array Oper)(rest:Pl)(d:Option Tmp)(tm:Tm)(cur:Ja1)(hist:List Ja1)(ws:List (Nat × Nat))(K:Tm->Ja1->Prop)(r:Option AV):Prop :=
 match r with
 | some x=>AOpsD P ops rest (putO d x tm) cur hist ws K
 | none=>False
def DExt (P:Program)(ops:Array Oper)(rest:Pl)(d:Option Tmp)(tm:Tm)(cur:Ja1)(hist:List Ja1)(ws:List (Nat × Nat))(K:Tm->Ja1->Prop)(r:Option (AV × Ja1)):Prop :=
 match r with
 | some (x,mem')=>(∃ extra,mem'=cur++extra)/\AOpsD P ops rest (putO d x tm) mem' (hist++[mem']) ws K
 | none=>False
def DWr (P:Program)(ops:Array Oper)(rest:Pl)(d:Option Tmp)(tm:Tm)(hist:List Ja1)(ws:List (Nat × Nat))(K:Tm->Ja1->Prop)(r:Option (AV × Ja1)):Prop :=
 match r with
 | some (x,mem')=>AOpsD P ops rest (putO d x tm) mem' (hist++[mem']) ws K
 | none=>False
def DUp (P:Program)(ops:Array Oper)(rest:Pl)(d:Option Tmp)(tm:Tm)(cur:Ja1)(hist:List Ja1)(ws:List (Nat × Nat))(K:Tm->Ja1->Prop)(A:Option Ja1)(r:Option (AV × Ja1)):Prop :=
 match r with
 | some (x,mem')=>(∃ B x0 y0,A=some B/\cur=B++x0/\mem'=B++y0)/\AOpsD P ops rest (putO d x tm) mem' (hist++[mem']) ws K
 | none=>False
def DCall (P:Program)(ops:Array Oper)(rest:Pl)(d:Option Tmp)(tm:Tm)(cur:Ja1)(hist:List Ja1)(ws:List (Nat × Nat))(K:Tm->Ja1->Prop)(g:FuncId)(args:List AV):Prop :=
 ∃ ret extra,Ctr P g args cur ret (cur++extra)/\AOpsD P ops rest (putO d ret tm) (cur++extra) (hist++[cur++extra]) ws K
def DCallW (P:Program)(ops:Array Oper)(rest:Pl)(d:Option Tmp)(tm:Tm)(cur:Ja1)(hist:List Ja1)(ws:List (Nat × Nat))(K:Tm->Ja1->Prop)(g:FuncId)(args:List AV):Prop :=
 ∃ ret mem',Ctr P g args cur ret mem'/\AOpsD P ops rest (putO d ret tm) mem' (hist++[mem']) ws K
def DFn (P:Program)(ops:Array Oper)(rest:Pl)(d:Option Tmp)(tm:Tm)(cur:Ja1)(hist:List Ja1)(ws:List (Nat × Nat))(K:Tm->Ja1->Prop)(w:Bool)(f:AV)(args:List AV):Prop :=
 match f with
 | .one (.fn g cs)=>if w then DCallW P ops rest d tm cur hist ws K g (args++Ji9 cs) else DCall P ops rest d tm cur hist ws K g (args++Ji9 cs)
 | _=>False
def DFl (P:Program)(ops:Array Oper)(rest:Pl)(d:Option Tmp)(tm:Tm)(cur:Ja1)(hist:List Ja1)(ws:List (Nat × Nat))(K:Tm->Ja1->Prop)(t:TypeId)(r:Option Value):Prop :=
 match r with
 | some z=>AOpsD P ops rest (putO d (.one (.ptr cur.length 0 0)) tm) (cur++[⟨.fix,t,0,0,z.cells.toList.map Jj4⟩]) (hist++[cur++[⟨.fix,t,0,0,z.cells.toList.map Jj4⟩]]) ws K
 | none=>False
def Vj5 (P:Program)(ops:Array Oper)(rest:Pl)(d:Option Tmp)(tm:Tm)(cur:Ja1)(hist:List Ja1)(ws:List (Nat × Nat))(K:Tm->Ja1->Prop)(lo:Nat)(a:AV)(r:Option AV):Prop :=
 match a,r with
 | .one (.ptr k _ _),some x=>AOpsD P ops rest (putO d x tm) cur hist ((lo,k)::ws) K
 | _,_=>False
def DOp (P:Program)(ops:Array Oper)(rest:Pl)(d:Option Tmp)(tm:Tm)(cur:Ja1)(hist:List Ja1)(ws:List (Nat × Nat))(K:Tm->Ja1->Prop)(op:Op)(g:Option (Nat × Bool))(p:Plan):Prop :=
 match p with
 | .val=>DVal P ops rest d tm cur hist ws K (Ji0 P (opd tm) [] op)
 | .rd lo=>match op with
  | .load t y=>Xr4 P ops rest d tm cur hist ws K ((hist[lo]?).bind fun M=>Jt3 P t (opd tm y) M)
  | _=>False
 | .rw lo=>match op with
  | .load t y=>Vj5 P ops rest d tm cur hist ws K lo (opd tm y) ((hist[lo]?).bind fun M=>Jt3 P t (opd tm y) M)
  | _=>False
 | .ext=>match op with
  | .store _ _ _=>False
  | .call ⟨.value f,args,_⟩=>DFn P ops rest d tm cur hist ws K false (opd tm f) (args.toList.map (opd tm))
  | op=>DExt P ops rest d tm cur hist ws K (Ji0 P (opd tm) cur op)
 | .up q=>DUp P ops rest d tm cur hist ws K (hist[q]?) (Ji0 P (opd tm) cur op)
 | .fl=>match op,g with
  | .alloc t,none=>DFl P ops rest d tm cur hist ws K t (Jc0 P t)
  | _,_=>False
 | .wr=>match op with
  | .store t x y=>DWr P ops rest d tm hist ws K ((Jx2 P t (opd tm x) (opd tm y) cur).map fun m=>(.one .und,m))
  | .call ⟨.value f,args,_⟩=>DFn P ops rest d tm cur hist ws K true (opd tm f) (args.toList.map (opd tm))
  | op=>DWr P ops rest d tm hist ws K (Ji0 P (opd tm) cur op)
def Yd9 (P:Program)(ops:Array Oper)(rest:Pl)(d:Option Tmp)(tm:Tm)(cur:Ja1)(hist:List Ja1)(ws:List (Nat × Nat))(K:Tm->Ja1->Prop)(op:Op)(og:Option (Nat × Bool))(p:Plan)(g:Option Bool):Prop :=
 match g with
 | some true=>DOp P ops rest d tm cur hist ws K op og p
 | some false=>AOpsD P ops rest (putO d (.one .und) tm) cur (if p.chain then hist++[cur] else hist) ws K
 | none=>False
section
variable {ops:Array Oper}{rest:Pl}{d:Option Tmp}{op:Op}{t:TypeId}{pos:String}{af:Array Edge}{tm:Tm}{cur:Ja1}{hist:List Ja1}{ws:List (Nat × Nat)}{K:Tm->Ja1->Prop}{p:Plan}{og:Option (Nat × Bool)}
theorem Kj2 {Ms:List Ja1}:Watched Ms []:=fun p hp=>by cases hp
theorem Vj9:AOpsD P ops [] tm cur hist [] K=K tm cur:=by simp only [AOpsD,eq_iff_iff,and_iff_right_iff_imp];exact fun _=>Kj2
def Qd8 (r:Nat)(b:Blk):List Ja1->Prop
 | []=>True
 | M::Ms=>M[r]?=some b/\Qd8 r b Ms
theorem Qd7 {r:Nat}{b:Blk}:∀ {Ms:List Ja1},Qd8 r b Ms->∀ M,M ∈ Ms->M[r]?=some b
 | M'::Ms,h,M,hM=>by
  rcases List.mem_cons.1 hM with rfl|hM
  ·exact h.1
  ·exact Qd7 h.2 M hM
theorem Watched.add {Ms:List Ja1}{W:List (Nat × Nat)}{lo r:Nat}{b:Blk}{Ms':List Ja1}(he:Ms.drop lo=Ms')(h:Qd8 r b Ms')(h2:Watched Ms W):Watched Ms ((lo,r)::W):=fun p hp=>by
 rcases List.mem_cons.1 hp with rfl|hp
 ·exact ⟨b,fun M hM=>Qd7 (he ▸ h) M hM⟩
 ·exact h2 p hp
def Kj3 (Ms:List Ja1):List (Nat × Nat)->Prop
 | []=>True
 | (lo,r)::W=>(match Ms.drop lo with
  | []=>True
  | M::Ms'=>match M[r]? with
   | some b=>Qd8 r b Ms'
   | none=>False)/\Kj3 Ms W
theorem Kb6 {Ms:List Ja1}:∀ {W:List (Nat × Nat)},Kj3 Ms W->Watched Ms W
 | [],_=>Kj2
 | (lo,r)::W,h=>by
  have h1:=h.1
  generalize hd:Ms.drop lo=L at h1
  cases L with
  | nil=>exact Watched.add (b:=⟨.fix,0,0,0,[]⟩) hd trivial (Kb6 h.2)
  | cons M L =>
   cases hm:M[r]? with
   | none=>simp only [hm] at h1
   | some b=>simp only [hm] at h1;exact Watched.add (b:=b) hd ⟨hm,h1⟩ (Kb6 h.2)
theorem Kq3 (h:Kj3 hist ws)(hk:K tm cur):AOpsD P ops [] tm cur hist ws K:=⟨Kb6 h,hk⟩
theorem Qe0 {o:Oper}:AOpsD P ops ((o,p)::rest) tm cur hist ws K=Yd9 P ops rest o.dst tm cur hist ws K o.op o.guard p (Jh3 ops o tm):=by
 obtain ⟨d,op,t,pos,af,g⟩:=o
 simp only [AOpsD,Yd9,DOp]
 generalize Jh3 ops ⟨d,op,t,pos,af,g⟩ tm=w
 cases w with
 | none=>rfl
 | some b =>
  cases b with
  | false=>rfl
  | true =>
   simp only
   cases p with
   | val=>rfl
   | rd lo =>
    cases op
    case load t y =>
     simp only [Xr4]
     cases hist[lo]? with
     | none=>rfl
     | some M=>rfl
    all_goals rfl
   | rw lo =>
    cases op
    case load t y =>
     simp only [Vj5]
     generalize opd tm y=a
     cases hist[lo]? with
     | none =>
      cases a with
      | one c=>cases c<;>rfl
      | _=>rfl
     | some M =>
      cases a with
      | one c =>
       cases c
       case ptr r v o=>simp only [Option.bind_some]<;>(generalize Jt3 P t (.one (.ptr r v o)) M=z;cases z<;>rfl)
       all_goals rfl
      | _=>rfl
    all_goals rfl
   | ext =>
    cases op
    case call c =>
     obtain ⟨cal,args,ts⟩:=c
     cases cal with
     | value f =>
      simp only [DFn,DCall]
      generalize opd tm f=fv
      cases fv with
      | one c=>cases c<;>rfl
      | _=>rfl
     | _=>rfl
    all_goals rfl
   | up q=>rfl
   | fl =>
    cases op
    case alloc t =>
     cases g with
     | none=>simp only [DFl]<;>(generalize Jc0 P t=z;cases z<;>rfl)
     | some g=>rfl
    all_goals rfl
   | wr =>
    cases op
    case store t x y =>
     simp only [DWr]
     generalize Jx2 P t (opd tm x) (opd tm y) cur=s
     cases s<;>rfl
    case call c =>
     obtain ⟨cal,args,ts⟩:=c
     cases cal with
     | value f =>
      simp only [DFn,DCallW]
      generalize opd tm f=fv
      cases fv with
      | one c=>cases c<;>rfl
      | _=>rfl
     | _=>rfl
    all_goals rfl
theorem Vj8:AOpsD P ops ((⟨d,op,t,pos,af,none⟩,p)::rest) tm cur hist ws K=DOp P ops rest d tm cur hist ws K op none p:=by
 rw [Qe0];rfl
theorem Vk0 {g:Nat × Bool}:AOpsD P ops ((⟨d,op,t,pos,af,some g⟩,p)::rest) tm cur hist ws K=Yd9 P ops rest d tm cur hist ws K op (some g) p (Jh3 ops ⟨d,op,t,pos,af,some g⟩ tm):=Qe0
theorem Vj6:Yd9 P ops rest d tm cur hist ws K op og p (some true)=DOp P ops rest d tm cur hist ws K op og p:=rfl
theorem Qu8:Yd9 P ops rest d tm cur hist ws K op og p (some false)=AOpsD P ops rest (putO d (.one .und) tm) cur (if p.chain then hist++[cur] else hist) ws K:=rfl
theorem Vx2 {z:Value}:DFl P ops rest d tm cur hist ws K t (some z)=AOpsD P ops rest (putO d (.one (.ptr cur.length 0 0)) tm) (cur++[⟨.fix,t,0,0,z.cells.toList.map Jj4⟩]) (hist++[cur++[⟨.fix,t,0,0,z.cells.toList.map Jj4⟩]]) ws K:=rfl
theorem Vj4 {x:AV}:DVal P ops rest d tm cur hist ws K (some (x,[]))=AOpsD P ops rest (putO d x tm) cur hist ws K:=rfl
theorem Qh9 {x:AV}{lo r v o:Nat}:Vj5 P ops rest d tm cur hist ws K lo (.one (.ptr r v o)) (some x)=AOpsD P ops rest (putO d x tm) cur hist ((lo,r)::ws) K:=rfl
theorem Qu7 {x:AV}:Xr4 P ops rest d tm cur hist ws K (some x)=AOpsD P ops rest (putO d x tm) cur hist ws K:=rfl
theorem DExt.by {x:AV}{mem' extra:Ja1}(he:mem'=cur++extra)(h:AOpsD P ops rest (putO d x tm) mem' (hist++[mem']) ws K):DExt P ops rest d tm cur hist ws K (some (x,mem')):=⟨⟨extra,he⟩,h⟩
theorem DUp.by {x:AV}{mem' B x0 y0:Ja1}(hc:cur=B++x0)(hm:mem'=B++y0)(h:AOpsD P ops rest (putO d x tm) mem' (hist++[mem']) ws K):DUp P ops rest d tm cur hist ws K (some B) (some (x,mem')):=⟨⟨B,x0,y0,rfl,hc,hm⟩,h⟩
theorem Vx1 {x:AV}{mem':Ja1}:DWr P ops rest d tm hist ws K (some (x,mem'))=AOpsD P ops rest (putO d x tm) mem' (hist++[mem']) ws K:=rfl
theorem Xr5 {g:FuncId}{cs:List (Nat × Nat × Nat)}{args:List AV}:DFn P ops rest d tm cur hist ws K false (.one (.fn g cs)) args=DCall P ops rest d tm cur hist ws K g (args++Ji9 cs):=rfl
theorem Ye0 {g:FuncId}{cs:List (Nat × Nat × Nat)}{args:List AV}:DFn P ops rest d tm cur hist ws K true (.one (.fn g cs)) args=DCallW P ops rest d tm cur hist ws K g (args++Ji9 cs):=rfl
theorem DCall.by {g:FuncId}{args:List AV}{ret:AV}{extra:Ja1}(h:Ctr P g args cur ret (cur++extra))(h2:AOpsD P ops rest (putO d ret tm) (cur++extra) (hist++[cur++extra]) ws K):DCall P ops rest d tm cur hist ws K g args:=⟨ret,extra,h,h2⟩
theorem DCall.z {g:FuncId}{args:List AV}{ret:AV}(h:Ctr P g args cur ret cur)(h2:AOpsD P ops rest (putO d ret tm) cur (hist++[cur]) ws K):DCall P ops rest d tm cur hist ws K g args:=⟨ret,[],by simpa using h,by simpa using h2⟩
theorem DCallW.by {g:FuncId}{args:List AV}{ret:AV}{mem':Ja1}(h:Ctr P g args cur ret mem')(h2:AOpsD P ops rest (putO d ret tm) mem' (hist++[mem']) ws K):DCallW P ops rest d tm cur hist ws K g args:=⟨ret,mem',h,h2⟩
end
def RetP (P:Program)(rs:List ResultVar)(L:Nat)(ret:AV)(mem':Ja1)(ex:Exit)(tm:Tm)(m:Ja1):Prop :=
 (ex=.normal\/ex=.ret)/\∃ x,Je0 P rs tm m=some x/\Hands L x m ret mem'
variable {nt:Nat}{tm:Tm}{mem:Ja1}{Q:Exit->Tm->Ja1->Prop}
theorem Ctr.enter {f : FuncId} {fn : Func} {c : Code} {args : List AV} {ret : AV} {mem' : Ja1} {rs : List ResultVar} {nt : Nat} (hf : P.funcs[f]? = some fn) (hb : fn.body = some c) (hname : (fn.name == "runtime.NumGoroutine") = false) (hrs : fn.results.toList = rs) (hnt : fn.ntmps = nt)
  (h:MWf mem.length mem->∀ Q:Exit->Tm->Ja1->Prop,(∀ ex tm m,RetP P rs mem.length ret mem' ex tm m->Q ex tm m)->AW P nt c (Jp2 0 args) mem Q):Ctr P f args mem ret mem':=by
 subst hrs;subst hnt
 exact Ctr.of_body hf hb hname fun hw=>h hw _ fun _ _ _ h=>h
theorem AW.q {x y:Code}(h:∀ K:Tm->Ja1->Prop,(∀ tm' mem',AW P nt y tm' mem' Q->K tm' mem')->AW P nt x tm mem (Thn K Q)):AW P nt (.seq x y) tm mem Q :=
 AW.seq (h _ fun _ _ h=>h)
theorem AOps.mono {ops:Array Oper}{K K':Tm->Ja1->Prop}(hk:∀ tm m,K tm m->K' tm m):∀ (l:List Oper) (tm:Tm) (mem:Ja1),AOps P ops l tm mem K->AOps P ops l tm mem K'
 | [],tm,mem,h=>hk tm mem h
 | ⟨d,op,t,pos,af,none⟩::rest,tm,mem,h=>by
  rw [Ky0] at h ⊢
  have kv:∀ r,Vi6 P ops rest d tm K r->Vi6 P ops rest d tm K' r:=fun r h=>by
   cases r with
   | none=>exact h
   | some x=>exact AOps.mono hk rest _ _ h
  have ks:∀ r,Vi9 P ops rest d tm K r->Vi9 P ops rest d tm K' r:=fun r h=>by
   cases r with
   | none=>exact h
   | some x=>exact AOps.mono hk rest _ _ h
  have kf:∀ f args,Qh8 P ops rest d tm K f args mem->Qh8 P ops rest d tm K' f args mem:=fun f args h=>by
   unfold Qh8 at h ⊢
   split at h
   ·obtain ⟨ret,mem',h1,h2⟩:=h
    exact ⟨ret,mem',h1,AOps.mono hk rest _ _ h2⟩
   ·obtain ⟨ret,mem',h1,h2⟩:=h
    exact ⟨ret,mem',h1,AOps.mono hk rest _ _ h2⟩
   ·exact h.elim
  cases op with
  | store t x y=>exact ks _ h
  | call c =>
   obtain ⟨callee,args,ats⟩:=c
   cases callee with
   | value f=>exact kf _ _ h
   | _=>simp only [Qu5] at h ⊢;exact kv _ h
  | _=>simp only [Qu5] at h ⊢;exact kv _ h
 | ⟨d,op,t,pos,af,some g⟩::rest,tm,mem,h=>by
  rw [Qq0] at h ⊢
  generalize Jh3 ops ⟨d,op,t,pos,af,some g⟩ tm=w at h ⊢
  match w,h with
  | none,h=>exact h
  | some false,h=>exact AOps.mono hk rest _ _ h
  | some true,h=>exact AOps.mono hk (⟨d,op,t,pos,af,none⟩::rest) _ _ h
termination_by l=>(l.length,(match l with|⟨_,_,_,_,_,some _⟩::_=>1|_=>0))
decreasing_by all_goals simp_wf;all_goals first|(apply Prod.Lex.left;simp;done)|(apply Prod.Lex.right;simp;done)
def RL:List ((Tm->Ja1->Prop)->Tm->Ja1->Prop)->(Tm->Ja1->Prop)->Tm->Ja1->Prop
 | [],K=>K
 | f::r,K=>f (RL r K)
theorem Yd7 {K:Tm->Ja1->Prop}:RL [] K tm mem=K tm mem:=propext Iff.rfl
theorem Vj0 {f:(Tm->Ja1->Prop)->Tm->Ja1->Prop}{r:List ((Tm->Ja1->Prop)->Tm->Ja1->Prop)}{K:Tm->Ja1->Prop}:RL (f::r) K tm mem=f (RL r K) tm mem:=propext Iff.rfl
def Xs2:Nat->Code->Option (List (Array Oper) × Code)
 | 0,c=>some ([],c)
 | n+1,.seq (.region _ a false) y=>match Xs2 n y with
  | some (ls,z)=>some (a::ls,z)
  | none=>none
 | _,_=>none
theorem AW.cutR_ok:∀ {n:Nat} {c y:Code} {ls:List (Array Oper)} {tm:Tm} {mem:Ja1},Xs2 n c=some (ls,y)->ls.all (fun a=>a.toList.all (Jz6 nt))=true->RL (ls.map fun a K tm mem=>AOps P a a.toList tm mem K) (fun tm' mem'=>AW P nt y tm' mem' Q) tm mem->AW P nt c tm mem Q
 | 0,c,y,ls,tm,mem,h,_,hr=>by
  simp only [Xs2,Option.some.injEq,Prod.mk.injEq] at h
  obtain ⟨rfl,rfl⟩:=h
  exact hr
 | n+1,c,y,ls,tm,mem,h,hd,hr=>by
  unfold Xs2 at h
  split at h
  ·rename_i e;exact absurd e (by omega)
  ·rename_i id a y' e
   split at h
   ·rename_i ls' z hz
    injection h with h;injection h with h1 h2
    subst h1;subst h2
    rw [List.all_cons,Bool.and_eq_true] at hd
    rw [List.map_cons,Vj0] at hr
    have ha:AW P nt (.region id a.toList.toArray false) tm mem (Thn (fun tm' mem'=>AW P nt y' tm' mem' Q) Q):=AW.region hd.1 (by
     rw [Array.toArray_toList]
     exact AOps.mono (fun tm' mem' h=>AW.cutR_ok hz hd.2 h) _ _ _ hr)
    rw [Array.toArray_toList] at ha
    exact AW.seq ha
   ·cases h
  ·cases h
theorem AW.sr {c y:Code}{ls:List (Array Oper)}(n:Nat)(hk:∀ K:Tm->Ja1->Prop,(∀ tm' mem',AW P nt y tm' mem' Q->K tm' mem')->RL (ls.map fun a K tm mem=>AOps P a a.toList tm mem K) K tm mem)(h:Xs2 n c=some (ls,y):=by rfl)(hd:ls.all (fun a=>a.toList.all (Jz6 nt))=true:=by decide):AW P nt c tm mem Q :=
 AW.cutR_ok h hd (hk _ fun _ _ h=>h)
theorem AW.rg {id:Nat}{l:List Oper}(h:AOps P l.toArray l tm mem (Q .normal))(hd:l.all (Jz6 nt)=true:=by decide):AW P nt (.region id l.toArray false) tm mem Q:=AW.region hd h
theorem AW.ifF {c:Operand}{x y:Code}(hc:opd tm c=.one (.bool false))(h:AW P nt y tm mem Q):AW P nt (.seq (.cond c x .skip) y) tm mem Q:=AW.seq (AW.cond hc (fun h=>by cases h) (fun _=>AW.z h))
theorem AW.ifT {c:Operand}{x y:Code}(hc:opd tm c=.one (.bool true))(h:AW P nt y tm mem Q):AW P nt (.seq (.cond c .skip x) y) tm mem Q:=AW.seq (AW.cond hc (fun _=>AW.z h) (fun h=>by cases h))
theorem AW.y {c:Operand}{x y:Code}(hc:opd tm c=.one (.bool true))(h:AW P nt x tm mem Q):AW P nt (.cond c x y) tm mem Q:=AW.cond hc (fun _=>h) (fun h=>by cases h)
theorem AW.x {c:Operand}{x y:Code}(hc:opd tm c=.one (.bool false))(h:AW P nt y tm mem Q):AW P nt (.cond c x y) tm mem Q:=AW.cond hc (fun h=>by cases h) (fun _=>h)
theorem Jk2 {K:Tm->Ja1->Prop}{tm':Tm}{m':Ja1}(h:K tm' m'):Thn K Q .normal tm' m':=h
theorem Kx9 {K:Tm->Ja1->Prop}{tm':Tm}{m':Ja1}{id:Nat}(h:Q (.exit id) tm' m'):Thn K Q (.exit id) tm' m':=h
theorem Kr3 {id:Nat}{tm':Tm}{m':Ja1}(h:Q .normal tm' m'):InB id Q .normal tm' m':=h
theorem Jq0 {id:Nat}{tm':Tm}{m':Ja1}(h:Q .normal tm' m'):InB id Q (.exit id) tm' m':=by simp only [InB,if_true];exact h
theorem Vj2 {id id':Nat}{tm':Tm}{m':Ja1}(hne:id'≠id)(h:Q (.exit id') tm' m'):InB id Q (.exit id') tm' m':=by simp only [InB,if_neg hne];exact h
theorem RetP.drop {rs:List ResultVar}{ret:AV}{extra:Ja1}{ex:Exit}(hex:ex=.normal\/ex=.ret)(hres:Je0 P rs tm (mem++extra)=some ret)(hb:ret.below mem.length=true)(hw:MWf mem.length mem) :
  RetP P rs mem.length ret mem ex tm (mem++extra):=⟨hex,ret,hres,Hands.drop rfl hb hw⟩
theorem RetP.drop0 {rs:List ResultVar}{ret:AV}{ex:Exit}(hex:ex=.normal\/ex=.ret)(hres:Je0 P rs tm mem=some ret)(hb:ret.below mem.length=true)(hw:MWf mem.length mem) :
  RetP P rs mem.length ret mem ex tm mem:=⟨hex,ret,hres,Hands.drop (extra:=[]) (by simp) hb hw⟩
theorem RetP.pick {rs:List ResultVar}{ret:AV}{extra bs:Ja1}{ex:Exit}(ks:List (Nat × Nat))(hex:ex=.normal\/ex=.ret)(hx:(Je0 P rs tm (mem++extra)).bind (Kg3 mem.length ks)=some ret)(hbs:Jm8 (mem++extra) ks=some bs)
  (hd:Jc2 mem.length ks) (hw:MWf mem.length mem) (hwb:MWf mem.length bs) :
  RetP P rs mem.length ret (mem++bs) ex tm (mem++extra):=by
 obtain ⟨x,hres,hx⟩:=Option.bind_eq_some_iff.1 hx
 exact ⟨hex,x,hres,Hands.pick rfl ks hbs hd hx hw hwb⟩
def ARounds (P:Program)(nt:Nat)(c:Code)(Q:Exit->Tm->Ja1->Prop):Nat->Tm->Ja1->Prop
 | 0,_,_=>False
 | n+1,tm,mem=>AW P nt c tm mem (Thn (ARounds P nt c Q n) Q)
theorem ARounds.s {c:Code}{n:Nat}(h:∀ K:Tm->Ja1->Prop,(∀ tm' mem',ARounds P nt c Q n tm' mem'->K tm' mem')->AW P nt c tm mem (Thn K Q)):ARounds P nt c Q (n+1) tm mem:=h _ fun _ _ h=>h
theorem Kk8 {c:Code}:∀ (n:Nat) (Q1 Q2:Exit->Act->World->Prop),(∀ e a w,Q1 e a w->Q2 e a w)->∀ a w,Code.rounds P c Q1 n a w->Code.rounds P c Q2 n a w:=by
 intro n Q1 Q2 hQ
 induction n with
 | zero=>intro a w h;exact h
 | succ n ihn =>
  intro a w h
  refine wp_mono h ?_
  intro e a w h
  cases e with
  | normal=>exact ihn a w h
  | _=>exact hQ _ _ _ h
theorem AW.r {c:Code}(n:Nat)(h:ARounds P nt c Q n tm mem):AW P nt (.loop c) tm mem Q:=by
 intro ρ a w hr
 refine wp_loop_rounds n ?_
 induction n generalizing tm mem ρ a w with
 | zero=>exact h.elim
 | succ n ih =>
  refine wp_mono (h ρ a w hr) ?_
  rintro e a' w' ⟨ρ',tm',mem',hr',hs,hd,hq⟩
  cases e with
  | normal =>
   refine Kk8 _ _ _ ?_ a' w' (ih hq ρ' a' w' hr')
   rintro e a'' w'' ⟨ρ'',tm'',mem'',hr'',hs',hd',hq'⟩
   exact ⟨ρ'',tm'',mem'',hr'',hs.trans hs',hd'.trans hd,hq'⟩
  | _=>exact ⟨ρ',tm',mem',hr',hs,hd,hq⟩
theorem AW.weak {c:Code}{tm':Tm}(h:Keeps tm tm')(g:AW P nt c tm' mem Q):AW P nt c tm mem Q:=by
 intro ρ a w hr
 obtain ⟨ρ',hr',hs⟩:=Weak.keep (nt:=nt) (mem:=mem) h ρ a w hr
 refine wp_mono (g ρ' a w hr') ?_
 rintro e a' w' ⟨ρ2,tm2,mem2,hr2,hs2,hd,hq⟩
 exact ⟨ρ2,tm2,mem2,hr2,(hs mem ρ w (Nat.le_refl _) (Step.refl _ _ _)).trans hs2,hd,hq⟩
theorem Kf9 {L L':Nat}(h:L<=L'):∀ {c:CV},c.below L=true->c.below L'=true
 | .ptr r _ _,hc=>by simp only [CV.below,decide_eq_true_eq] at hc ⊢;omega
 | .sl r _ _ _,hc=>by simp only [CV.below,decide_eq_true_eq] at hc ⊢;omega
 | .view r _ _ _,hc=>by simp only [CV.below,decide_eq_true_eq] at hc ⊢;omega
 | .fn _ cs,hc=>by
  simp only [CV.below,List.all_eq_true,decide_eq_true_eq] at hc ⊢
  exact fun c hcs=>Nat.lt_of_lt_of_le (hc c hcs) h
 | .bm _ cs,hc=>by
  simp only [CV.below,List.all_eq_true] at hc ⊢
  intro s hs
  have:=hc s hs
  cases s<;>simp only [SV.below,decide_eq_true_eq] at this ⊢
  omega
 | .bool _,_=>rfl
 | .int _ _,_=>rfl
 | .str _,_=>rfl
 | .nilp,_=>rfl
 | .nils,_=>rfl
 | .nilf,_=>rfl
 | .nili,_=>rfl
 | .und,_=>rfl
 | .junk,_=>rfl
 | .mp r _,hc=>by simp only [CV.below,decide_eq_true_eq] at hc ⊢;omega
 | .nilm,_=>rfl
 | .gp _ _,_=>rfl
 | .ifj _,_=>rfl
theorem Kr1 {L L':Nat}(h:L<=L'){cs:List CV}(hc:cs.all (CV.below L)=true):cs.all (CV.below L')=true :=
 List.all_eq_true.2 fun c hcs=>Kf9 h (List.all_eq_true.1 hc c hcs)
theorem Kn4 {L L':Nat}(h:L<=L'){k:BK}(hk:k.below L=true):k.below L'=true:=by
 cases k with
 | map ka va clock es =>
  simp only [BK.below,List.all_eq_true,Bool.and_eq_true] at hk ⊢
  exact fun e he=>⟨fun c hc=>Kf9 h ((hk e he).1 c hc),fun c hc=>Kf9 h ((hk e he).2 c hc)⟩
 | iter rm since seen last=>simp only [BK.below,decide_eq_true_eq] at hk ⊢;omega
 | _=>rfl
theorem Jz7 {L L':Nat}(h:L<=L'){b:Blk}(hb:b.below L=true):b.below L'=true:=by
 simp only [Blk.below,Bool.and_eq_true] at hb ⊢
 exact ⟨Kn4 h hb.1,Kr1 h hb.2⟩
theorem Kp6 {L:Nat}{b:Blk}(hk:b.kind.below L=true)(h:b.cells.all (CV.below L)=true):b.below L=true:=by
 simp only [Blk.below,Bool.and_eq_true];exact ⟨hk,h⟩
theorem Vj1 {L:Nat}{b:Blk}(h:b.cells.all (CV.below 0)=true)(hk:b.kind.below 0=true:=by rfl):MWf L [b]:=fun b' hb=>by
 rw [List.mem_singleton.1 hb];exact Jz7 (Nat.zero_le _) (Kp6 hk h)
theorem Jb3 {L:Nat}:MWf L []:=fun b hb=>by cases hb
theorem Ja0 {L:Nat}{b:Blk}{m:Ja1}(h:b.cells.all (CV.below L)=true)(hm:MWf L m)(hk:b.kind.below L=true:=by rfl):MWf L (b::m):=fun b' hb=>by
 rcases List.mem_cons.1 hb with rfl|hb
 ·exact Kp6 hk h
 ·exact hm b' hb
theorem MWf.grow {L L':Nat}{m:Ja1}(h:MWf L m)(hl:L<=L'):MWf L' m:=fun b hb=>Jz7 hl (h b hb)
theorem MWf.app {L:Nat}{m l:Ja1}(h:MWf L m)(hl:MWf L l):MWf L (m++l):=fun b hb=>by
 rcases List.mem_append.1 hb with hb|hb
 ·exact h b hb
 ·exact hl b hb
theorem Ja7 {m:Ja1}{r:Nat}{b:Blk}(h:m[r]?=some b):r<m.length:=(List.getElem?_eq_some_iff.1 h).1
def Ja9 (tm:Tm)(ks:List Nat):Tm:=ks.map fun k=>(k,Tm.get tm k)
def Ja2 (m:Ja1):List (Nat × Blk)->Ja1
 | []=>m
 | (k,b)::r=>Ja2 (m.set k b) r
theorem Jy7:∀ (u:List (Nat × Blk)) (m:Ja1),(Ja2 m u).length=m.length
 | [],m=>rfl
 | (k,b)::u,m=>by rw [Ja2,Jy7 u];simp
theorem KS:(∀ tm:Tm,Keeps tm []=True)/\(∀ (tm:Tm) (j:Nat) (v:AV) (r:List (Nat × AV)),Keeps tm ((j,v)::r)=(Tm.get tm j=v/\Keeps tm r))/\(∀ (j:Nat) (v:AV) (r:List (Nat × AV)) (i:Nat),Tm.get ((j,v)::r) i=if i=j then v else Tm.get r i)/\(∀ p:Prop,(True/\p)=p)/\(∀ p:Prop,(p/\True)=p)/\∀ p:Prop,(p/\p)=p :=
 ⟨fun _=>rfl,fun _ _ _ _=>rfl,fun _ _ _ _=>rfl,true_and,and_true,and_self⟩
theorem Jv8 (tm:Tm):∀ ks:List Nat,Keeps tm (Ja9 tm ks)
 | []=>trivial
 | k::ks=>⟨rfl,Jv8 tm ks⟩
theorem Keeps.append {tm:Tm}:∀ {a b:Tm},Keeps tm a->Keeps tm b->Keeps tm (a++b)
 | [],b,_,h=>h
 | (j,v)::a,b,h,g=>⟨h.1,Keeps.append h.2 g⟩
theorem Weak.to {tm':Tm}{m1 extra:Ja1}(hk:Keeps tm tm')(he:mem=m1++extra)(ht:tm'.all (fun p=>p.2.below m1.length)=true)(hw:MWf m1.length m1):Weak nt tm mem tm' m1 :=
 Weak.trans (Weak.keep hk) (Weak.trunc he (fun p hp=>List.all_eq_true.1 ht p hp) hw) (by rw [he];simp)
theorem Weak.same {tm':Tm}{m1:Ja1}(hk:Keeps tm tm')(he:mem=m1):Weak nt tm mem tm' m1:=by subst he;exact Weak.keep hk
theorem AW.loopK {ι:Type}{c:Code}(keep:List Nat)(I:ι->Prop)(V:ι->Tm)(U:ι->List (Nat × Blk))(μ:ι->Nat)(i:ι)(hi:I i)(hv:Keeps tm (V i))(hm:Ja2 mem (U i)=mem)
  (h:∀ i,I i->AW P nt c (V i++Ja9 tm keep) (Ja2 mem (U i)) (Thn (fun tm' mem'=>∃ j,I j/\μ j < μ i/\Weak nt tm' mem' (V j++Ja9 tm keep) (Ja2 mem (U j))) Q)):AW P nt (.loop c) tm mem Q:=by
 refine AW.weak (tm':=V i++Ja9 tm keep) (Keeps.append hv (Jv8 _ _)) ?_
 refine AW.loop (ι:={ i // I i }) (fun j=>V j.1++Ja9 tm keep) (fun j=>Ja2 mem (U j.1)) (fun j=>μ j.1) ⟨i,hi⟩ rfl hm fun ⟨j,hj⟩=>?_
 refine (h j hj).mono fun e tm' mem' hq=>?_
 cases e with
 | normal =>
  obtain ⟨k,hk,hlt,hw⟩:=hq
  exact ⟨⟨k,hk⟩,hlt,hw,by simp only [Jy7];exact Nat.le_refl _⟩
 | _=>exact hq
def AL (P:Program)(nt:Nat)(c:Code)(Q:Exit->Tm->Ja1->Prop)(m0:Ja1)(n:Nat)(tm:Tm)(mem:Ja1):Prop :=
 ∀ ρ0 w0 ρ a w,Rep ρ nt tm mem a w->Step m0 ρ0 w0 mem ρ w->Code.rounds P c (fun ex a' w'=>∃ ρ' tm' mem',Rep ρ' nt tm' mem' a' w'/\Step m0 ρ0 w0 mem' ρ' w'/\a'.defers=a.defers/\Q ex tm' mem') n a w
theorem AL.loop {c:Code}{n:Nat}(h:AL P nt c Q mem n tm mem):AW P nt (.loop c) tm mem Q:=fun ρ a w hr=>wp_loop_rounds n (h ρ w ρ a w hr (Step.refl _ _ _))
theorem AL.succ {c:Code}{m0:Ja1}{n:Nat}(h:AW P nt c tm mem (Thn (fun tm' m'=>∃ T M,Weak nt tm' m' T M/\m0.length<=M.length/\AL P nt c Q m0 n T M) Q)):AL P nt c Q m0 (n+1) tm mem:=by
 intro ρ0 w0 ρ a w hr hs
 refine wp_mono (h ρ a w hr) ?_
 rintro e a' w' ⟨ρ',tm',mem',hr',hs',hd,hq⟩
 have hst:=hs.trans hs'
 cases e with
 | normal =>
  obtain ⟨T,M,hw,hl,hal⟩:=hq
  obtain ⟨ρ2,hr2,hs2⟩:=hw ρ' a' w' hr'
  refine Kk8 _ _ _ ?_ a' w' (hal ρ0 w0 ρ2 a' w' hr2 (hs2 _ _ _ hl hst))
  rintro e a'' w'' ⟨ρ'',tm'',mem'',hr'',hs'',hd',hq'⟩
  exact ⟨ρ'',tm'',mem'',hr'',hs'',hd'.trans hd,hq'⟩
 | _=>exact ⟨ρ',tm',mem',hr',hst,hd,hq⟩
theorem AL.inv {ι:Type}{c:Code}{m0:Ja1}(I:ι->Prop)(T:ι->Tm)(M:ι->Ja1)(μ:ι->Nat)(hl:∀ i,I i->m0.length<=(M i).length)
  (h:∀ i,I i->AW P nt c (T i) (M i) (Thn (fun tm' mem'=>∃ j,I j/\μ j < μ i/\Weak nt tm' mem' (T j) (M j)) Q)):∀ (n:Nat) (i:ι),I i->μ i<=n->AL P nt c Q m0 (n+1) (T i) (M i):=by
 intro n
 induction n with
 | zero =>
  intro i hi hn
  refine AL.succ ((h i hi).mono fun e tm' mem' hq=>?_)
  cases e with
  | normal=>obtain ⟨j,hj,hlt,_⟩:=hq;omega
  | _=>exact hq
 | succ n ih =>
  intro i hi hn
  refine AL.succ ((h i hi).mono fun e tm' mem' hq=>?_)
  cases e with
  | normal=>obtain ⟨j,hj,hlt,hw⟩:=hq;exact ⟨_,_,hw,hl j hj,ih j hj (by omega)⟩
  | _=>exact hq
theorem AW.condJ {c:Operand}{x y:Code}{b:Bool}(hc:opd tm c=.one (.bool b))(keep:List Nat)(V:Tm)(U:List (Nat × Blk))
  (ht:b=true->AW P nt x tm mem (Thn (fun tm' m'=>Weak nt tm' m' (V++Ja9 tm keep) (Ja2 mem U)) Q)) (hf:b=false->AW P nt y tm mem (Thn (fun tm' m'=>Weak nt tm' m' (V++Ja9 tm keep) (Ja2 mem U)) Q))
  (h:Q .normal (V++Ja9 tm keep) (Ja2 mem U)):AW P nt (.cond c x y) tm mem Q:=by
 have go:∀ {z:Code},AW P nt z tm mem (Thn (fun tm' m'=>Weak nt tm' m' (V++Ja9 tm keep) (Ja2 mem U)) Q)->AW P nt z tm mem Q:=by
  intro z hz ρ a w hr
  refine wp_mono (hz ρ a w hr) ?_
  rintro e a' w' ⟨ρ',tm',mem',hr',hs,hd,hq⟩
  cases e with
  | normal =>
   obtain ⟨ρ2,hr2,hs2⟩:=hq ρ' a' w' hr'
   exact ⟨ρ2,_,_,hr2,hs2 _ _ _ (by rw [Jy7];exact Nat.le_refl _) hs,hd,h⟩
  | _=>exact ⟨ρ',tm',mem',hr',hs,hd,hq⟩
 exact AW.cond hc (fun hb=>go (ht hb)) (fun hb=>go (hf hb))
theorem iw0:IntKind.i64.wrap 0=0:=rfl
theorem iw1:IntKind.i64.wrap 1=1:=rfl
theorem iw2:IntKind.i64.wrap 2=2:=rfl
theorem iw3:IntKind.i64.wrap 3=3:=rfl
theorem iw4:IntKind.i64.wrap 4=4:=rfl
theorem iw5:IntKind.i64.wrap 5=5:=rfl
theorem iw6:IntKind.i64.wrap 6=6:=rfl
theorem iw7:IntKind.i64.wrap 7=7:=rfl
theorem iw8:IntKind.i64.wrap 8=8:=rfl
theorem iw9:IntKind.i64.wrap 9=9:=rfl
theorem iw10:IntKind.i64.wrap 10=10:=rfl
theorem iw11:IntKind.i64.wrap 11=11:=rfl
theorem iw12:IntKind.i64.wrap 12=12:=rfl
theorem iw13:IntKind.i64.wrap 13=13:=rfl
theorem iw14:IntKind.i64.wrap 14=14:=rfl
theorem iw15:IntKind.i64.wrap 15=15:=rfl
theorem iw16:IntKind.i64.wrap 16=16:=rfl
theorem iw17:IntKind.i64.wrap 17=17:=rfl
theorem iw18:IntKind.i64.wrap 18=18:=rfl
theorem iw19:IntKind.i64.wrap 19=19:=rfl
theorem iw20:IntKind.i64.wrap 20=20:=rfl
theorem iw21:IntKind.i64.wrap 21=21:=rfl
theorem iw22:IntKind.i64.wrap 22=22:=rfl
theorem iw23:IntKind.i64.wrap 23=23:=rfl
theorem iw24:IntKind.i64.wrap 24=24:=rfl
theorem iw25:IntKind.i64.wrap 25=25:=rfl
theorem iw26:IntKind.i64.wrap 26=26:=rfl
theorem iw27:IntKind.i64.wrap 27=27:=rfl
theorem iw28:IntKind.i64.wrap 28=28:=rfl
theorem iw29:IntKind.i64.wrap 29=29:=rfl
theorem iw30:IntKind.i64.wrap 30=30:=rfl
theorem iw31:IntKind.i64.wrap 31=31:=rfl
theorem iw32:IntKind.i64.wrap 32=32:=rfl
theorem iw33:IntKind.i64.wrap 33=33:=rfl
theorem iw34:IntKind.i64.wrap 34=34:=rfl
theorem iw35:IntKind.i64.wrap 35=35:=rfl
theorem iw36:IntKind.i64.wrap 36=36:=rfl
theorem iw37:IntKind.i64.wrap 37=37:=rfl
theorem iw38:IntKind.i64.wrap 38=38:=rfl
theorem iw39:IntKind.i64.wrap 39=39:=rfl
theorem iw40:IntKind.i64.wrap 40=40:=rfl
theorem rg2:List.range' 0 2=[0,1]:=rfl
theorem rg3:List.range' 0 3=[0,1,2]:=rfl
theorem rg4:List.range' 0 4=[0,1,2,3]:=rfl
theorem rg5:List.range' 0 5=[0,1,2,3,4]:=rfl
theorem rg6:List.range' 0 6=[0,1,2,3,4,5]:=rfl
theorem rg8:List.range' 0 8=[0,1,2,3,4,5,6,7]:=rfl
theorem rg16:List.range' 0 16=[0,1,2,3,4,5,6,7,8,9,10,11,12,13,14,15]:=rfl
end
open Go Go.RowKit Go.ChangeShapes Go.WideShapes
def Kg0 (m:Ja1):Prop:=∀ b,b ∈ m->b.kind=.ro
theorem Step.below {m m':Ja1}{ρ ρ':Env}{W W':World}(h:Step m ρ W m' ρ' W')(hro:Kg0 m):Below W.heap.size W W' :=
 ⟨h.os,h.tape,h.output,h.size,fun k hk=>h.frame k hk (fun r b x _ hb hne=>absurd (hro b (List.mem_of_getElem? hb)) hne)⟩
section
variable {P:Program}{B:Nat}
def Kb0 (P:Program)(B:Nat)(m:Ja1):Nat->TypeId->List CV->Prop
 | 0,_,_=>False
 | n+1,t,cs=>match P.underlying t with
  | some .bool=>∃ b,cs=[.bool b]
  | some (.int k)=>∃ x,cs=[.int k x]/\k.min<=x/\x<=k.max
  | some .string=>∃ s:ByteArray,cs=[.str s]/\s.size<=B
  | some (.slice e)=>∃ r len cells,cs=[.sl r 0 0 len]/\m[r]?=some ⟨.ro,e,0,P.cellsOf e,cells⟩/\cells.length=len*P.cellsOf e/\len<=B /\
    ∀ i,i<len->Kb0 P B m n e ((cells.drop (i*P.cellsOf e)).take (P.cellsOf e))
  | some (.struct fs)=>cs.length=P.cellsOf t/\∀ f,f ∈ fs.toList->Kb0 P B m n f.type ((cs.drop f.offset).take (P.cellsOf f.type))
  | some (.array k e)=>cs.length=P.cellsOf t/\∀ i,i<k->Kb0 P B m n e ((cs.drop (i*P.cellsOf e)).take (P.cellsOf e))
  | _=>True
theorem Jo5 {m:Ja1}(x:Ja1):∀ (n:Nat) (t:TypeId) (cs:List CV),Kb0 P B m n t cs->Kb0 P B (m++x) n t cs
 | 0,_,_,h=>h
 | n+1,t,cs,h=>by
  unfold Kb0 at h ⊢
  split at h
  ·exact h
  ·exact h
  ·exact h
  ·obtain ⟨r,len,cells,h1,h2,h3,h4,h5⟩:=h
   exact ⟨r,len,cells,h1,Ja4 h2 x,h3,h4,fun i hi=>Jo5 x n _ _ (h5 i hi)⟩
  ·exact ⟨h.1,fun f hf=>Jo5 x n _ _ (h.2 f hf)⟩
  ·exact ⟨h.1,fun i hi=>Jo5 x n _ _ (h.2 i hi)⟩
  ·trivial
theorem Jx8 {α β:Type}{f:α->Option β}:∀ {l:List α} {xs:List β},l.mapM f=some xs->All2 (fun a x=>f a=some x) l xs
 | [],xs,h=>by simp at h;subst h;trivial
 | a::l,xs,h=>by
  rw [List.mapM_cons] at h
  cases ha:f a with
  | none=>simp [ha] at h
  | some y =>
   cases hl:l.mapM f with
   | none=>simp [ha,hl] at h
   | some ys =>
    simp [ha,hl] at h
    subst h
    exact ⟨ha,Jx8 hl⟩
theorem All2.mem {α β:Type}{R:α->β->Prop}:∀ {l:List α} {r:List β},All2 R l r->∀ a,a ∈ l->∃ b,b ∈ r/\R a b
 | [],_,_,a,h=>by cases h
 | x::l,[],h,_,_=>h.elim
 | x::l,y::r,h,a,ha=>by
  rcases List.mem_cons.1 ha with rfl|ha
  ·exact ⟨y,by simp,h.1⟩
  ·obtain ⟨b,hb,hr⟩:=All2.mem h.2 a ha
   exact ⟨b,List.mem_cons_of_mem _ hb,hr⟩
structure IsBulk {H:Type}(bulk:DataW H->Nat):Prop where
 str:∀ l:List UInt8,l.length<=bulk (.lit (.string l))
 agg:∀ (l:List (DataW H)) (d:DataW H),d ∈ l->bulk d<=bulk (.agg l)
 row:∀ (l s:List (DataW H)) (d:DataW H),d ∈ l->bulk d<=bulk (.slice l s)
 len:∀ l s:List (DataW H),l.length<=bulk (.slice l s)
theorem RepM.roBlkV {ρ:Env}{m:Ja1}{W:World}(h:RepM ρ m W)(hro:Kg0 m)(ver:Nat)(A:Option Addr)(k ty esz:Nat)(cells:List CV)
  (hc:cells≠[]->∃ a,A=some a/\a.block<W.heap.size/\(0<ver->a=⟨ver - 1,0,none⟩/\∃ c t z,W.heap[ver - 1]?=some (.cells c t z)/\c.size=cells.length)/\∀ i c,cells[i]?=some c->∃ v,W.cell? (a.add i)=some v/\VC ρ c v) :
  ρ.le (ρ.set m.length ver (A,k))/\RepM (ρ.set m.length ver (A,k)) (m++[⟨.ro,ty,ver,esz,cells⟩]) W/\Kg0 (m++[⟨.ro,ty,ver,esz,cells⟩]):=by
 have hle:ρ.le (ρ.set m.length ver (A,k)):=Env.le_set (h.dom _ _ (Nat.le_refl _))
 have hall:Kg0 (m++[⟨.ro,ty,ver,esz,cells⟩]):=by
  intro b hb
  rcases List.mem_append.1 hb with hb|hb
  ·exact hro b hb
  ·rw [List.mem_singleton.1 hb]
 refine ⟨hle,⟨?_,?_,?_,?_⟩,hall⟩
 ·intro r b hb
  rcases Nat.lt_trichotomy r m.length with hr|hr|hr
  ·rw [List.getElem?_append_left hr] at hb
   exact (h.blk r b hb).mono hle
  ·subst hr;simp at hb;subst hb
   refine ⟨A,k,Env.set_same _ _ _ _,fun hne=>?_⟩
   obtain ⟨a,ha,hlt,hgl,hv⟩:=hc hne
   exact ⟨a,ha,hlt,hgl,fun i c hi=>by obtain ⟨v,h1,h2⟩:=hv i c hi;exact ⟨v,h1,h2.mono hle⟩⟩
  ·rw [List.getElem?_append_right (by omega),List.getElem?_eq_none (by simp;omega)] at hb
   cases hb
 ·intro r v hr
  simp at hr
  rw [Env.set_other ρ _ (by omega)]
  exact h.dom r v (by omega)
 ·intro r b v hb hv
  rcases Nat.lt_trichotomy r m.length with hr|hr|hr
  ·rw [List.getElem?_append_left hr] at hb
   rw [Env.set_other ρ _ (by omega)];exact h.domv r b v hb hv
  ·subst hr;simp at hb;subst hb
   rw [Env.set_other ρ _ (by simp only at hv;omega)];exact h.dom _ _ (Nat.le_refl _)
  ·rw [List.getElem?_append_right (by omega),List.getElem?_eq_none (by simp;omega)] at hb
   cases hb
 ·intro r s b c hb _ _ hk
  exact absurd (hall b (List.mem_of_getElem? hb)) hk
theorem RepM.roBlk {ρ:Env}{m:Ja1}{W:World}(h:RepM ρ m W)(hro:Kg0 m)(A:Option Addr)(k ty esz:Nat)(cells:List CV)
  (hc:cells≠[]->∃ a,A=some a/\a.block<W.heap.size/\∀ i c,cells[i]?=some c->∃ v,W.cell? (a.add i)=some v/\VC ρ c v) :
  ρ.le (ρ.set m.length 0 (A,k))/\RepM (ρ.set m.length 0 (A,k)) (m++[⟨.ro,ty,0,esz,cells⟩]) W/\Kg0 (m++[⟨.ro,ty,0,esz,cells⟩]) :=
 h.roBlkV hro 0 A k ty esz cells fun hne=>by
  obtain ⟨a,h1,h2,h3⟩:=hc hne
  exact ⟨a,h1,h2,fun h=>absurd h (Nat.lt_irrefl 0),h3⟩
theorem Xq9 (a:Addr)(m n:Nat):(a.add m).add n=a.add (m+n):=by
 unfold Addr.add
 by_cases hm:m=0
 ·subst hm;simp
 ·by_cases hn:n=0
  ·subst hn;simp
  ·rw [if_neg hn,if_neg hm,if_neg (by omega)];simp [Nat.add_assoc]
theorem Kx5 {α:Type}{sz:Nat}:∀ {ls:List (List α)} (hl:∀ l,l ∈ ls->l.length=sz) {i:Nat} {c:List α},ls[i]?=some c->(ls.flatten.drop (i*sz)).take sz=c
 | [],_,i,c,h=>by simp at h
 | l::ls,hl,0,c,h=>by
  simp at h;subst h
  simp [List.flatten_cons,List.take_append_of_le_length (Nat.le_of_eq (hl l (by simp)).symm),List.take_of_length_le (Nat.le_of_eq (hl l (by simp)))]
 | l::ls,hl,i+1,c,h=>by
  simp only [List.getElem?_cons_succ] at h
  have:=Kx5 (fun x hx=>hl x (List.mem_cons_of_mem _ hx)) h
  rw [List.flatten_cons,show (i+1)*sz=l.length+i*sz by rw [hl l (by simp),Nat.add_mul];omega,List.drop_append,List.drop_of_length_le (by omega)]
  simpa using this
theorem Qo0 {α:Type}{sz:Nat}:∀ {ls:List (List α)} (hl:∀ l,l ∈ ls->l.length=sz),ls.flatten.length=ls.length*sz
 | [],_=>by simp
 | l::ls,hl=>by
  rw [List.flatten_cons,List.length_append,Qo0 (fun x hx=>hl x (List.mem_cons_of_mem _ hx)),hl l (by simp),List.length_cons,Nat.add_mul];omega
theorem Qo1 {α:Type}{sz:Nat}:∀ {ls:List (List α)} (hl:∀ l,l ∈ ls->l.length=sz) {j:Nat} {c:α},ls.flatten[j]?=some c->∃ i q l,j=i*sz+q/\q<sz/\ls[i]?=some l/\l[q]?=some c
 | [],_,j,c,h=>by simp at h
 | l::ls,hl,j,c,h=>by
  rw [List.flatten_cons] at h
  rcases Nat.lt_or_ge j l.length with hj|hj
  ·rw [List.getElem?_append_left hj] at h
   exact ⟨0,j,l,by simp,by rw [<-hl l (by simp)];exact hj,rfl,h⟩
  ·rw [List.getElem?_append_right hj] at h
   obtain ⟨i,q,l',h1,h2,h3,h4⟩:=Qo1 (fun x hx=>hl x (List.mem_cons_of_mem _ hx)) h
   refine ⟨i+1,q,l',?_,h2,h3,h4⟩
   have:=hl l (by simp)
   rw [Nat.add_mul];omega
variable {H:Type}{enc:TypeId × Value->H}{W:World}{bulk:DataW H->Nat}
def Kq1 (P:Program)(B:Nat)(W:World)(n:Nat)(t:TypeId)(cs:List Value):Prop :=
 ∀ ρ m,RepM ρ m W->Kg0 m->∃ ρ' ex cv,ρ.le ρ'/\RepM ρ' (m++ex) W/\Kg0 (m++ex)/\All2 (VC ρ') cv cs/\Kb0 P B (m++ex) n t cv
theorem Jy8 {α:Type}{n:Nat}(tt:α->TypeId):∀ (l:List α) (cs:List (List Value)),All2 (fun a c=>Kq1 P B W n (tt a) c) l cs ->
  ∀ ρ m,RepM ρ m W->Kg0 m->∃ ρ' ex cvs,ρ.le ρ'/\RepM ρ' (m++ex) W/\Kg0 (m++ex)/\All2 (fun cv c=>All2 (VC ρ') cv c) cvs cs/\All2 (fun a cv=>Kb0 P B (m++ex) n (tt a) cv) l cvs
 | [],[],_,ρ,m,hm,hro=>⟨ρ,[],[],Env.le_refl _,by simpa using hm,by simpa using hro,trivial,trivial⟩
 | a::l,c::cs,h,ρ,m,hm,hro=>by
  obtain ⟨ρ1,ex1,cv,h1,h2,h3,h4,h5⟩:=h.1 ρ m hm hro
  obtain ⟨ρ2,ex2,cvs,g1,g2,g3,g4,g5⟩:=Jy8 tt l cs h.2 ρ1 (m++ex1) h2 h3
  refine ⟨ρ2,ex1++ex2,cv::cvs,fun r v x hx=>g1 _ _ _ (h1 _ _ _ hx),by rwa [<-List.append_assoc],by rwa [<-List.append_assoc],⟨h4.mono fun _ _=>VC.mono g1,g4⟩,⟨?_,?_⟩⟩
  ·rw [<-List.append_assoc];exact Jo5 _ _ _ _ h5
  ·rwa [<-List.append_assoc]
 | [],_::_,h,_,_,_,_=>h.elim
 | _::_,[],h,_,_,_,_=>h.elim
def Kw4 (P:Program):List Field->Nat->Nat->Bool
 | [],off,tot=>off ==tot
 | f::fs,off,tot=>f.offset ==off&&Kw4 P fs (off+P.cellsOf f.type) tot
def Qf9 (P:Program):Bool:=(List.range P.types.size).all fun t=>match P.underlying t with
 | some (.struct fs)=>Kw4 P fs.toList 0 (P.cellsOf t)&&fs.toList.all fun f=>decide (f.type<P.types.size)
 | some (.array n e)=>P.cellsOf t ==n*P.cellsOf e&&decide (e<P.types.size)
 | some (.slice e)=>decide (e<P.types.size)
 | _=>true
theorem Qm1:∀ {fs:List Field} {off tot:Nat},Kw4 P fs off tot=true->off<=tot
 | [],off,tot,h=>by simp [Kw4] at h;omega
 | f::fs,off,tot,h=>by simp only [Kw4,Bool.and_eq_true] at h;have:=Qm1 h.2;omega
theorem Kt0 {ρ:Env}{m:Ja1}{n:Nat}(cs:List Value):∀ (fs:List Field) (off tot:Nat) (cvs:List (List CV)),Kw4 P fs off tot=true->cs.length=tot ->
  All2 (fun cv c=>All2 (VC ρ) cv c) cvs (fs.map fun f=>(cs.drop f.offset).take (P.cellsOf f.type))->All2 (fun f cv=>Kb0 P B m n f.type cv) fs cvs ->
  All2 (VC ρ) cvs.flatten (cs.drop off)/\∀ f,f ∈ fs->off<=f.offset/\Kb0 P B m n f.type ((cvs.flatten.drop (f.offset - off)).take (P.cellsOf f.type))
 | [],off,tot,[],h,hl,_,_=>by
  simp [Kw4] at h
  rw [List.drop_of_length_le (by omega)]
  exact ⟨trivial,fun f hf=>by cases hf⟩
 | f::fs,off,tot,cv::cvs,h,hl,h1,h2=>by
  simp only [Kw4,Bool.and_eq_true,beq_iff_eq] at h
  have hle:=Qm1 h.2
  have hlen:cv.length=P.cellsOf f.type:=by
   rw [h1.1.length,List.length_take,List.length_drop,h.1];omega
  obtain ⟨g1,g2⟩:=Kt0 cs fs _ tot cvs h.2 hl h1.2 h2.2
  refine ⟨?_,fun f' hf'=>?_⟩
  ·rw [List.flatten_cons]
   have e:cs.drop off=(cs.drop off).take (P.cellsOf f.type)++cs.drop (off+P.cellsOf f.type):=by
    rw [<-List.drop_drop,List.take_append_drop]
   rw [e]
   have h1':All2 (VC ρ) cv ((cs.drop f.offset).take (P.cellsOf f.type)):=h1.1
   rw [h.1] at h1'
   exact h1'.append g1
  ·rcases List.mem_cons.1 hf' with rfl|hf'
   ·refine ⟨by omega,?_⟩
    rw [h.1,Nat.sub_self,List.drop_zero,List.flatten_cons,List.take_append_of_le_length (by omega),List.take_of_length_le (by omega)]
    exact h2.1
   ·obtain ⟨q1,q2⟩:=g2 f' hf'
    refine ⟨by omega,?_⟩
    rw [List.flatten_cons,show f'.offset - off=cv.length+(f'.offset - (off+P.cellsOf f.type)) by omega,List.drop_append,List.drop_of_length_le (by omega)]
    simpa using q2
 | [],_,_,_::_,_,_,_,h=>h.elim
 | _::_,_,_,[],_,_,_,h=>h.elim
theorem Kb3 {α β γ:Type}{R:α->γ->Prop}{f:β->γ}:∀ {l:List α} {r:List β},All2 (fun a b=>R a (f b)) l r->All2 R l (r.map f)
 | [],[],_=>trivial
 | _::_,_::_,h=>⟨h.1,Kb3 h.2⟩
 | [],_::_,h=>h.elim
 | _::_,[],h=>h.elim
theorem Kq2 {α:Type}{R:α->α->Prop}:∀ {l:List α},(∀ a,a ∈ l->R a a)->All2 R l l
 | [],_=>trivial
 | a::l,h=>⟨h a (by simp),Kq2 fun b hb=>h b (List.mem_cons_of_mem _ hb)⟩
theorem cells?_get {a:Addr}{base sz:Nat}{cs:List Value}(h:W.cells? base a sz=some cs):cs.length=sz/\∀ q v,cs[q]?=some v->W.cell? (a.add q)=some v:=by
 unfold World.cells? at h
 split at h
 ·have h2:=Jx8 h
  refine ⟨by rw [<-h2.length,List.length_range],fun q v hq=>?_⟩
  have hql:q<sz:=by have:=(List.getElem?_eq_some_iff.1 hq).1;rw [<-h2.length,List.length_range] at this;exact this
  obtain ⟨b,hb,hr⟩:=h2.get (i:=q) (a:=q) (by simp [hql])
  rw [hq] at hb;injection hb with hb;subst hb;exact hr
 ·cases h
theorem cell?_lt {a:Addr}{v:Value}(h:W.cell? a=some v):a.block<W.heap.size:=by
 unfold World.cell? at h
 split at h
 ·rename_i hb;exact (Array.getElem?_eq_some_iff.1 hb).1
 ·cases h
theorem Qf8 (hl:Qf9 P=true){t:TypeId}{fs:Array Field}(hlt:t<P.types.size)(h:P.underlying t=some (.struct fs)):Kw4 P fs.toList 0 (P.cellsOf t)=true/\∀ f,f ∈ fs.toList->f.type<P.types.size:=by
 have:=List.all_eq_true.1 hl t (List.mem_range.2 hlt)
 rw [h] at this
 simp only [Bool.and_eq_true,List.all_eq_true,decide_eq_true_eq] at this
 exact this
theorem Qs6 (hl:Qf9 P=true){t e:TypeId}{n:Nat}(hlt:t<P.types.size)(h:P.underlying t=some (.array n e)):P.cellsOf t=n*P.cellsOf e/\e<P.types.size:=by
 have:=List.all_eq_true.1 hl t (List.mem_range.2 hlt)
 rw [h] at this;simpa using this
theorem Qs5 (hl:Qf9 P=true){t e:TypeId}(hlt:t<P.types.size)(h:P.underlying t=some (.slice e)):e<P.types.size:=by
 have:=List.all_eq_true.1 hl t (List.mem_range.2 hlt)
 rw [h] at this;simpa using this
theorem Qm2 {ρ:Env}:∀ cs:List Value,All2 (VC ρ) (cs.map fun _=>CV.junk) cs
 | []=>trivial
 | _::cs=>⟨trivial,Qm2 cs⟩
theorem Js5 {n:Nat}{t:TypeId}{cs:List Value}(h:∀ m cv,Kb0 P B m (n+1) t cv):Kq1 P B W (n+1) t cs:=fun ρ m hm hro =>
 ⟨ρ,[],cs.map fun _=>.junk,Env.le_refl _,by simpa using hm,by simpa using hro,Qm2 cs,h _ _⟩
theorem Vc9 {n:Nat}{t:TypeId}{c:CV}{v:Value}(hv:∀ ρ,VC ρ c v)(h:∀ m,Kb0 P B m (n+1) t [c]):Kq1 P B W (n+1) t [v]:=fun ρ m hm hro =>
 ⟨ρ,[],[c],Env.le_refl _,by simpa using hm,by simpa using hro,⟨hv ρ,trivial⟩,h _⟩
theorem Kp4 {α:Type}{sz:Nat}:∀ (n:Nat) (cs:List α),cs.length=n*sz->((List.range n).map fun i=>(cs.drop (i*sz)).take sz).flatten=cs
 | 0,cs,h=>by simp at h;simp [h]
 | n+1,cs,h=>by
  have ih:=Kp4 n (cs.take (n*sz)) (by rw [List.length_take,h];exact Nat.min_eq_left (Nat.mul_le_mul_right _ (by omega)))
  rw [List.range_succ,List.map_append,List.flatten_append]
  have e:((List.range n).map fun i=>(cs.drop (i*sz)).take sz)=(List.range n).map fun i=>((cs.take (n*sz)).drop (i*sz)).take sz:=by
   refine List.map_congr_left fun i hi=>?_
   have hi':=List.mem_range.1 hi
   have hle:i*sz+sz<=n*sz:=by rw [<-Nat.succ_mul];exact Nat.mul_le_mul_right _ hi'
   rw [List.drop_take,List.take_take,Nat.min_eq_left (by omega)]
  rw [e,ih]
  simp only [List.map_cons,List.map_nil,List.flatten_cons,List.flatten_nil,List.append_nil]
  rw [List.take_of_length_le (l:=cs.drop (n*sz)) (by rw [List.length_drop,h,Nat.succ_mul];omega),List.take_append_drop]
theorem Kh3 {ρ:Env}:∀ {cvs:List (List CV)} {cs:List (List Value)},All2 (fun cv c=>All2 (VC ρ) cv c) cvs cs->All2 (VC ρ) cvs.flatten cs.flatten
 | [],[],_=>trivial
 | _::_,_::_,h=>by rw [List.flatten_cons,List.flatten_cons];exact h.1.append (Kh3 h.2)
 | [],_::_,h=>h.elim
 | _::_,[],h=>h.elim
theorem All2.right {α β:Type}{R:α->β->Prop}{Q:β->Prop}:∀ {l:List α} {r:List β},All2 R l r->(∀ a b,a ∈ l->R a b->Q b)->∀ b,b ∈ r->Q b
 | [],[],_,_,b,hb=>by cases hb
 | x::l,y::r,h,hq,b,hb=>by
  rcases List.mem_cons.1 hb with rfl|hb
  ·exact hq x _ (by simp) h.1
  ·exact All2.right h.2 (fun a b ha=>hq a b (List.mem_cons_of_mem _ ha)) b hb
 | [],_::_,h,_,_,_=>h.elim
 | _::_,[],h,_,_,_=>h.elim
theorem Kv4 (hl:Qf9 P=true)(hb:IsBulk bulk){held:Bool}:∀ (n:Nat) (t:TypeId) (cs:List Value) (x:DataW H × List MemPlace),DataW.trod enc P W 0 (fun _=>true) held n t cs=some x->bulk x.1<=B->t<P.types.size->Kq1 P B W n t cs
 | 0,t,cs,x,h,_,_=>by simp [DataW.trod] at h
 | n+1,t,cs0,x,h,hB,hlt=>by
  unfold DataW.trod at h
  split at h
  ·rename_i b ht
   exact Vc9 (c:=.bool b) (fun _=>rfl) fun m=>by simp only [Kb0,ht];exact ⟨b,rfl⟩
  ·rename_i k k' a ht
   split at h
   ·rename_i hk
    obtain ⟨rfl,hw⟩:=hk
    simp only [Lit.wf,Bool.and_eq_true,decide_eq_true_eq] at hw
    exact Vc9 (c:=.int k' a) (fun _=>rfl) fun m=>by simp only [Kb0,ht];exact ⟨a,rfl,hw.1,hw.2⟩
   ·cases h
  ·rename_i ht
   exact Js5 fun m cv=>by simp only [Kb0,ht]
  ·rename_i s ht
   split at h
   ·injection h with h;subst h
    have:=hb.str s.data.toList
    have hB':bulk (.lit (.string s.data.toList))<=B:=hB
    have e:s.data.toList.length=s.size:=by rw [Array.length_toList];rfl
    exact Vc9 (c:=.str s) (fun _=>rfl) fun m=>by simp only [Kb0,ht];exact ⟨s,rfl,by omega⟩
   ·cases h
  ·rename_i ht
   exact Js5 fun m cv=>by simp only [Kb0,ht]
  ·rename_i ht
   exact Js5 fun m cv=>by simp only [Kb0,ht]
  ·rename_i e ht
   intro ρ m hm hro
   obtain ⟨q1,q2,q3⟩:=hm.roBlk hro none 0 e (P.cellsOf e) [] (fun h=>absurd rfl h)
   refine ⟨_,[⟨.ro,e,0,P.cellsOf e,[]⟩],[.sl m.length 0 0 0],q1,q2,q3,⟨⟨none,0,none,0,Env.set_same _ _ _ _,rfl,Nat.le_refl _,fun h=>absurd h (by omega),fun _=>⟨rfl,rfl⟩⟩,trivial⟩,?_⟩
   simp only [Kb0,ht]
   exact ⟨_,0,[],rfl,by simp,by simp,by omega,fun i hi=>by omega⟩
  ·rename_i e a len cap ht
   split at h
   ·rename_i hcap
    obtain ⟨elems,he,h⟩:=Option.bind_eq_some_iff.1 h
    obtain ⟨rest,hr,h⟩:=Option.map_eq_some_iff.1 h
    subst h
    have h2:=Jx8 he
    have hex:∀ (l:List Nat) (el:List (DataW H × List MemPlace)),All2 (fun i y=>((W.cells? 0 (a.add (i*P.cellsOf e)) (P.cellsOf e)).bind (DataW.trod enc P W 0 (fun _=>true) held n e))=some y) l el->(∀ y,y ∈ el->bulk y.1<=B) ->
      ∃ css:List (List Value),All2 (fun i c=>W.cells? 0 (a.add (i*P.cellsOf e)) (P.cellsOf e)=some c/\Kq1 P B W n e c) l css:=by
     intro l
     induction l with
     | nil=>intro el _ _;exact ⟨[],trivial⟩
     | cons i l ih =>
      intro el hel hbl
      cases el with
      | nil=>exact hel.elim
      | cons y el =>
       obtain ⟨css,hcss⟩:=ih el hel.2 fun y hy=>hbl y (List.mem_cons_of_mem _ hy)
       obtain ⟨c,hc1,hc2⟩:=Option.bind_eq_some_iff.1 hel.1
       exact ⟨c::css,⟨hc1,Kv4 hl hb n e c y hc2 (hbl y (by simp)) (Qs5 hl hlt ht)⟩,hcss⟩
    obtain ⟨css,hcss⟩:=hex _ _ h2 fun y hy=>Nat.le_trans (hb.row _ _ y.1 (List.mem_map_of_mem hy)) hB
    have hlen:len<=B:=by
     have:=hb.len (elems.map (·.1)) (rest.map (·.1))
     have hB':bulk (.slice (elems.map (·.1)) (rest.map (·.1)))<=B:=hB
     rw [List.length_map,<-h2.length,List.length_range] at this
     omega
    intro ρ m hm hro
    obtain ⟨ρ1,ex,cvs,g1,g2,g3,g4,g5⟩:=Jy8 (W:=W) (fun _=>e) _ css (hcss.mono fun _ _ h=>h.2) ρ m hm hro
    have hcl:∀ c,c ∈ css->c.length=P.cellsOf e:=hcss.right fun i c _ hc=>(cells?_get hc.1).1
    have hvl:∀ cv,cv ∈ cvs->cv.length=P.cellsOf e:=fun cv hcv=>by
     obtain ⟨c,hc,hvc⟩:=g4.mem cv hcv
     rw [hvc.length];exact hcl c hc
    have hcvl:cvs.length=len:=by rw [<-g5.length,List.length_range]
    obtain ⟨q1,q2,q3⟩:=g2.roBlk g3 (some a) cap e (P.cellsOf e) cvs.flatten (by
     intro hne
     have hcell:∀ i c,cvs.flatten[i]?=some c->∃ v,W.cell? (a.add i)=some v/\VC ρ1 c v:=by
      intro j c hj
      obtain ⟨i,q,l,e1,e2,e3,e4⟩:=Qo1 hvl hj
      obtain ⟨c',hc',hvc⟩:=g4.get e3
      obtain ⟨v,hv,hvv⟩:=hvc.get e4
      have hi:i<len:=by have:=(List.getElem?_eq_some_iff.1 e3).1;omega
      obtain ⟨c'',hc'',hr'⟩:=hcss.get (i:=i) (a:=i) (by simp [hi])
      rw [hc'] at hc'';injection hc'' with hc'';subst hc''
      have:=(cells?_get hr'.1).2 q v hv
      rw [Xq9] at this
      exact ⟨v,by rw [e1];exact this,hvv⟩
     refine ⟨a,rfl,?_,hcell⟩
     cases hf:cvs.flatten with
     | nil=>exact absurd hf hne
     | cons c r =>
      obtain ⟨v,hv,_⟩:=hcell 0 c (by rw [hf];rfl)
      have:=cell?_lt hv
      simpa [Addr.add] using this)
    refine ⟨_,ex++[⟨.ro,e,0,P.cellsOf e,cvs.flatten⟩],[.sl (m++ex).length 0 0 len],fun r v x hx=>q1 _ _ _ (g1 _ _ _ hx),by rwa [<-List.append_assoc],by rwa [<-List.append_assoc],⟨?_,trivial⟩,?_⟩
    ·exact ⟨some a,cap,some a,cap,Env.set_same _ _ _ _,rfl,hcap.2.1,fun _=>⟨a,rfl,by simp [Addr.add]⟩,fun _=>⟨rfl,rfl⟩⟩
    ·simp only [Kb0,ht]
     refine ⟨_,len,cvs.flatten,rfl,by rw [<-List.append_assoc];simp,by rw [Qo0 hvl,hcvl],hlen,fun i hi=>?_⟩
     obtain ⟨cv,hcv,hg⟩:=g5.get (i:=i) (a:=i) (by simp [hi])
     rw [Kx5 hvl hcv,<-List.append_assoc]
     exact Jo5 _ _ _ _ hg
   ·cases h
  ·rename_i cs0 _ _ fs ht
   have hlaid:=Qf8 hl hlt ht
   split at h
   ·rename_i hcl
    obtain ⟨xs,hx,h⟩:=Option.map_eq_some_iff.1 h
    subst h
    have h2:=Jx8 hx
    intro ρ m hm hro
    have h3:All2 (fun (f:Field) c=>Kq1 P B W n f.type c) fs.toList (fs.toList.map fun f=>(cs0.drop f.offset).take (P.cellsOf f.type)):=by
     refine Kb3 (Kq2 fun f hf=>?_)
     obtain ⟨y,hy,hfy⟩:=h2.mem f hf
     exact Kv4 hl hb n _ _ y hfy (Nat.le_trans (hb.agg _ y.1 (List.mem_map_of_mem hy)) hB) (hlaid.2 f hf)
    obtain ⟨ρ1,ex,cvs,g1,g2,g3,g4,g5⟩:=Jy8 (W:=W) (fun f:Field=>f.type) _ _ h3 ρ m hm hro
    obtain ⟨r1,r2⟩:=Kt0 cs0 fs.toList 0 _ cvs hlaid.1 hcl g4 g5
    refine ⟨ρ1,ex,cvs.flatten,g1,g2,g3,by simpa using r1,?_⟩
    simp only [Kb0,ht]
    refine ⟨by rw [r1.length,List.drop_zero];exact hcl,?_⟩
    exact fun f hf=>by have:=(r2 f hf).2;rwa [Nat.sub_zero] at this
   ·cases h
  ·rename_i cs0 _ _ k e ht
   split at h
   ·rename_i hcl
    obtain ⟨xs,hx,h⟩:=Option.map_eq_some_iff.1 h
    subst h
    have h2:=Jx8 hx
    have hsz:=Qs6 hl hlt ht
    intro ρ m hm hro
    have h3:All2 (fun (i:Nat) c=>Kq1 P B W n e c) (List.range k) ((List.range k).map fun i=>(cs0.drop (i*P.cellsOf e)).take (P.cellsOf e)):=by
     refine Kb3 (Kq2 fun i hi=>?_)
     obtain ⟨y,hy,hfy⟩:=h2.mem i hi
     exact Kv4 hl hb n _ _ y hfy (Nat.le_trans (hb.agg _ y.1 (List.mem_map_of_mem hy)) hB) hsz.2
    obtain ⟨ρ1,ex,cvs,g1,g2,g3,g4,g5⟩:=Jy8 (W:=W) (fun _:Nat=>e) _ _ h3 ρ m hm hro
    have hcl2:cs0.length=k*P.cellsOf e:=by omega
    have hvl:∀ cv,cv ∈ cvs->cv.length=P.cellsOf e:=fun cv hcv=>by
     obtain ⟨c,hc,hvc⟩:=g4.mem cv hcv
     rw [hvc.length]
     obtain ⟨i,hi,rfl⟩:=List.mem_map.1 hc
     have hi':=List.mem_range.1 hi
     have hle:i*P.cellsOf e+P.cellsOf e<=k*P.cellsOf e:=by rw [<-Nat.succ_mul];exact Nat.mul_le_mul_right _ hi'
     rw [List.length_take,List.length_drop];omega
    have hfl:All2 (VC ρ1) cvs.flatten cs0:=by
     have:=Kh3 g4
     rwa [Kp4 k cs0 hcl2] at this
    refine ⟨ρ1,ex,cvs.flatten,g1,g2,g3,hfl,?_⟩
    ·simp only [Kb0,ht]
     refine ⟨by rw [hfl.length];exact hcl,?_⟩
     intro i hi
     obtain ⟨cv,hcv,hg⟩:=g5.get (i:=i) (a:=i) (by simp [hi])
     rw [Kx5 hvl hcv];exact hg
   ·cases h
  all_goals first|(cases h;done)|exact Js5 fun m cv=>by simp only [Kb0, *]
theorem Xk1 {base:Nat}{r:Reach}{t:TypeId}{cs:Array Value}(h:Cell.okWide P W r base t (.agg cs)):False:=by
 unfold Cell.okWide at h
 split at h<;>try (rename_i h1;cases h1;done)
 all_goals (unfold Cell.ok at h;split at h<;>first|exact h|(rename_i h1;cases h1;done)|simp_all)
def goodA (P:Program)(B:Nat)(m:Ja1)(t:TypeId)(x:AV):Prop:=∃ n,match P.underlying t with
 | some (.struct _)=>∃ cs,x=.agg cs/\Kb0 P B m n t cs
 | some (.array _ _)=>∃ cs,x=.agg cs/\Kb0 P B m n t cs
 | _=>∃ c,x=.one c/\Kb0 P B m n t [c]
theorem Qt0 {m:Ja1}(x:Ja1){t:TypeId}{a:AV}(h:goodA P B m t a):goodA P B (m++x) t a:=by
 obtain ⟨n,h⟩:=h
 refine ⟨n,?_⟩
 split at h
 ·obtain ⟨cs,h1,h2⟩:=h;exact ⟨cs,h1,Jo5 x _ _ _ h2⟩
 ·obtain ⟨cs,h1,h2⟩:=h;exact ⟨cs,h1,Jo5 x _ _ _ h2⟩
 ·obtain ⟨cs,h1,h2⟩:=h;exact ⟨cs,h1,Jo5 x _ _ _ h2⟩
theorem Qa5 (hl:Qf9 P=true)(hb:IsBulk bulk){base:Nat}:∀ (ts:List TypeId) (vs:List Value) (ds:List (DataW H)) (ps:List MemPlace),DataW.TrodAll enc P W 0 (fun _=>true) true ts vs ds ps ->
  (∀ (i:Nat) t v,ts[i]?=some t->vs[i]?=some v->Value.okWide P W .any base t v)->(∀ d,d ∈ ds->bulk d<=B)->(∀ t,t ∈ ts->t<P.types.size)->∀ ρ m,RepM ρ m W->Kg0 m ->
  ∃ ρ' ex avs,RepM ρ' (m++ex) W/\Kg0 (m++ex)/\ρ.le ρ'/\All2 (VR ρ') avs vs/\All2 (fun t a=>goodA P B (m++ex) t a) ts avs
 | [],vs,ds,ps,h,_,_,_,ρ,m,hm,hro=>by
  obtain ⟨rfl,rfl,rfl⟩:=trodAll_nil h
  exact ⟨ρ,[],[],by simpa using hm,by simpa using hro,Env.le_refl _,trivial,trivial⟩
 | t::ts,vs0,ds0,ps,h,hok,hB,hts,ρ,m,hm,hro=>by
  obtain ⟨v,vs,d,ds,p,q,rfl,rfl,rfl,⟨n,h0⟩,r0⟩:=trodAll_cons h
  obtain ⟨ρ1,ex1,cv,g1,g2,g3,g4,g5⟩:=Kv4 hl hb n t _ _ h0 (hB d (by simp)) (hts t (by simp)) ρ m hm hro
  obtain ⟨ρ2,ex2,avs,k1,k2,k3,k4,k5⟩:=Qa5 hl hb ts vs ds q r0 (fun i t' v' h1 h2=>hok (i+1) t' v' h1 h2) (fun d' hd=>hB d' (List.mem_cons_of_mem _ hd)) (fun t' ht'=>hts t' (List.mem_cons_of_mem _ ht')) ρ1 (m++ex1) g2 g3
  have hv:=hok 0 t v rfl rfl
  have key:∃ a,VR ρ1 a v/\goodA P B (m++ex1) t a:=by
   unfold Value.okWide at hv
   split at hv
   ·rename_i fs ht
    obtain ⟨cs,rfl,_,_⟩:=hv
    exact ⟨.agg cv,⟨cs,rfl,g4⟩,n,by rw [ht];exact ⟨cv,rfl,g5⟩⟩
   ·rename_i k e ht
    obtain ⟨cs,rfl,_,_⟩:=hv
    exact ⟨.agg cv,⟨cs,rfl,g4⟩,n,by rw [ht];exact ⟨cv,rfl,g5⟩⟩
   ·rename_i hn1 hn2
    have hc:v.cells.toList=[v]:=by
     cases v<;>first|rfl|exact (Xk1 hv).elim
    rw [hc] at g4
    match cv,g4,g5 with
    | [c],g4,g5 =>
     refine ⟨.one c,g4.1,n,?_⟩
     split
     ·rename_i fs ht;exact absurd ht (hn1 fs)
     ·rename_i k e ht;exact absurd ht (hn2 k e)
     ·exact ⟨c,rfl,g5⟩
    | [],g4,_=>exact g4.elim
    | _::_::_,g4,_=>exact g4.2.elim
  obtain ⟨a,ha,hg⟩:=key
  refine ⟨ρ2,ex1++ex2,a::avs,by rwa [<-List.append_assoc],by rwa [<-List.append_assoc],fun r v x hx=>k3 _ _ _ (g1 _ _ _ hx),⟨ha.mono k3,k4⟩,⟨?_,?_⟩⟩
  ·rw [<-List.append_assoc];exact Qt0 _ hg
  ·rwa [<-List.append_assoc]
theorem Kb9 (hl:laidOutB P=true){W':World}{sp:Nat->Bool}:∀ (ts:List TypeId) (vs:List Value) (ds:List (DataW H)) (ps:List MemPlace),(∀ t,t ∈ ts->P.readableRec t=true/\t<P.types.size) ->
  DataW.TrodAll enc P W 0 (fun _=>true) true ts vs ds ps->(∀ p,p ∈ ps->W.sameAt W' p)->(∀ p,p ∈ ps->sp p.block=true)->DataW.TrodAll enc P W' 0 sp true ts vs ds ps
 | [],vs,ds,ps,_,h,_,_=>by
  obtain ⟨rfl,rfl,rfl⟩:=trodAll_nil h
  exact rfl
 | t::ts,vs0,ds0,ps,ht,h,hs,hsp=>by
  obtain ⟨v,vs,d,ds,p,q,rfl,rfl,rfl,h0,r0⟩:=trodAll_cons h
  exact ⟨p,q,WideElems.Trod_stays hl (ht t (by simp)).1 (ht t (by simp)).2 h0 (fun x hx=>hs x (by simp [hx])) (fun x hx=>hsp x (by simp [hx])),
   Kb9 hl ts vs ds q (fun t' h'=>ht t' (List.mem_cons_of_mem _ h')) r0 (fun x hx=>hs x (by simp [hx])) (fun x hx=>hsp x (by simp [hx])),rfl⟩
theorem Vb9 {fn:Func}{s:ChangeSpec}{W':World}{args:Array Value}{ds gs:List (DataW H)}{before:List MemPlace}{tb:TypeId}(hvars:s.vars=[])
  (hs:∀ l:List (DataW H),l=ds->s.fn H l={ results:=[.lit (.bool true)],args:=l }) (hl:laidOutB P=true) (hread:∀ t,t ∈ fn.params.toList->P.readableRec t=true/\t<P.types.size)
  (hres:fn.resultTypes=#[tb]) (htb:P.underlying tb=some .bool) (hW:DataW.Whole enc P fn.params.toList s.vars false W args.toList ds gs before) (hb:Below W.heap.size W W') :
  s.post enc P fn false true false false W args (.bool true) W':=by
 have hlt:∀ p ∈ before,p.block<W.heap.size:=fun p hp=>hW.lt p hp
 obtain ⟨p,q,hA,hV,rfl,hz,hn⟩:=id hW
 rw [hvars] at hV
 obtain ⟨rfl,rfl⟩:=trodVars_none hV
 have hargs:∀ sp:Nat->Bool,(∀ x,x ∈ p->sp x.block=true)->DataW.TrodAll enc P W' 0 sp true fn.params.toList args.toList ds p:=fun sp hsp =>
  Kb9 hl _ _ _ _ hread hA (fun x hx=>hb.same (hlt x (by simp [hx]))) hsp
 have hfn:s.fn H (ds++[])={ results:=[.lit (.bool true)],args:=ds }:=by rw [List.append_nil];exact hs ds rfl
 have hr:∀ (b:Nat) (sp:Nat->Bool) (hd:Bool),DataW.TrodAll enc P W' b sp hd fn.resultTypes.toList ((Value.bool true).resultList fn.resultTypes.size) [.lit (.bool true)] []:=fun b sp hd=>by
  rw [hres]
  exact ⟨[],[],⟨1,by simp [DataW.trod,htb,Value.cells]⟩,rfl,rfl⟩
 have hok:=ok_one (P:=P) (W':=W') (v:=.bool true) hres rfl (okWide_bool_mk htb true)
 refine ⟨ds,[],p++[],[],p,[],hW,?_,?_,?_,World.keptBut_mono (fun x hx=>⟨hx,.inr (by simpa using hx)⟩) (hb.frame (· ∈ p++[])),fun _=>⟨hok,_,[],([]++p)++[],⟨[]++p,[],trodAll_append (hargs _ fun _ _=>rfl) (hr _ _ _),?_,rfl,?_,?_⟩,?_⟩⟩
 ·rw [hfn];exact hr _ _ _
 ·rw [hfn];exact hargs _ fun x hx=>by simpa using hlt x (by simp [hx])
 ·rw [hfn,hvars];exact rfl
 ·rw [hvars];exact rfl
 ·intro b off hp
  rw [hb.frozen (hlt _ (by simpa using hp))]
  exact hz b off (by simpa using hp)
 ·intro ha;cases ha
 ·intro x hx _
  simpa using hx
theorem Vs4 {f:FuncId}{fn:Func}{s:ChangeSpec}{args:Array Value}{ds gs:List (DataW H)}{before:List MemPlace}{tb:TypeId}{base:Nat}(hvars:s.vars=[])
  (hs:∀ l:List (DataW H),l=ds->s.fn H l={ results:=[.lit (.bool true)],args:=l }) (hl:laidOutB P=true) (hlb:Qf9 P=true) (hread:fn.params.toList.all (fun t=>P.readableRec t&&decide (t<P.types.size))=true)
  (hres:fn.resultTypes=#[tb]) (htb:P.underlying tb=some .bool) (hb:IsBulk bulk) (hk:∀ d,d ∈ ds->bulk d<=B)
  (hval:∀ (j:Nat) t v,fn.params[j]?=some t->args[j]?=some v->Value.okWide P W .any base t v)
  (hW:DataW.Whole enc P fn.params.toList s.vars false W args.toList ds gs before)
  (hlaw:∀ m avs,Kg0 m->All2 (fun t a=>goodA P B m t a) fn.params.toList avs->Ctr P f avs m (.one (.bool true)) m) (hbod:Vj7 P f:=by exact ⟨_,rfl,rfl,rfl⟩) :
  Calls P f args W fun e W'=>∃ v,e=.returned v/\s.post enc P fn false true false false W args v W':=by
 have hread':∀ t,t ∈ fn.params.toList->P.readableRec t=true/\t<P.types.size:=fun t ht=>by
  have:=List.all_eq_true.1 hread t ht
  simpa using this
 obtain ⟨p,q,hA,hV,he,hz,hn⟩:=id hW
 obtain ⟨ρ,ex,avs,k1,k2,k3,k4,k5⟩:=Qa5 hlb hb (base:=base) _ _ _ _ hA (fun i t v h1 h2=>hval i t v (by simpa using h1) (by simpa using h2)) hk (fun t ht=>(hread' t ht).2) (fun _ _=>none) []
  ⟨fun r b h=>by simp at h,fun _ _ _=>rfl,fun r b v h=>by simp at h,fun r s b c h=>by simp at h⟩ (fun b h=>by cases h)
 have hc:=(hlaw _ avs k2 k5 ρ W _ k1 k4).calls hbod
 rw [show args.toList.toArray=args by simp] at hc
 refine hc.mono fun e W' ⟨v,ρ',e1,hv,hm,hst⟩=>?_
 have hv':v=.bool true:=hv
 subst e1;subst hv'
 exact ⟨_,rfl,Vb9 hvars hs hl hread' hres htb hW (hst.below k2)⟩
def Good (P:Program)(B:Nat)(m:Ja1)(t:TypeId)(cs:List CV):Prop:=∃ n,Kb0 P B m n t cs
theorem Good.int {m:Ja1}{t:TypeId}{cs:List CV}(h:Good P B m t cs){k:IntKind}(ht:P.underlying t=some (.int k)):∃ x,cs=[.int k x]/\k.min<=x/\x<=k.max:=by
 obtain ⟨n,h⟩:=h
 cases n with
 | zero=>exact h.elim
 | succ n=>simpa only [Kb0,ht] using h
theorem Good.row {m:Ja1}{t e:TypeId}{cs:List CV}(h:Good P B m t cs)(ht:P.underlying t=some (.slice e)) :
  ∃ r len cells,cs=[.sl r 0 0 len]/\m[r]?=some ⟨.ro,e,0,P.cellsOf e,cells⟩/\cells.length=len*P.cellsOf e/\len<=B/\∀ i,i<len->Good P B m e ((cells.drop (i*P.cellsOf e)).take (P.cellsOf e)):=by
 obtain ⟨n,h⟩:=h
 cases n with
 | zero=>exact h.elim
 | succ n =>
  simp only [Kb0,ht] at h
  obtain ⟨r,len,cells,h1,h2,h3,h4,h5⟩:=h
  exact ⟨r,len,cells,h1,h2,h3,h4,fun i hi=>⟨n,h5 i hi⟩⟩
theorem Good.struct {m:Ja1}{t:TypeId}{cs:List CV}(h:Good P B m t cs){fs:Array Field}(ht:P.underlying t=some (.struct fs)):cs.length=P.cellsOf t/\∀ f,f ∈ fs.toList->Good P B m f.type ((cs.drop f.offset).take (P.cellsOf f.type)):=by
 obtain ⟨n,h⟩:=h
 cases n with
 | zero=>exact h.elim
 | succ n=>simp only [Kb0,ht] at h;exact ⟨h.1,fun f hf=>⟨n,h.2 f hf⟩⟩
theorem Good.arr {m:Ja1}{t e:TypeId}{cs:List CV}(h:Good P B m t cs){k:Nat}(ht:P.underlying t=some (.array k e)):cs.length=P.cellsOf t/\∀ i,i<k->Good P B m e ((cs.drop (i*P.cellsOf e)).take (P.cellsOf e)):=by
 obtain ⟨n,h⟩:=h
 cases n with
 | zero=>exact h.elim
 | succ n=>simp only [Kb0,ht] at h;exact ⟨h.1,fun i hi=>⟨n,h.2 i hi⟩⟩
theorem goodA.agg {m:Ja1}{t:TypeId}{x:AV}(h:goodA P B m t x)(ht:(∃ fs,P.underlying t=some (.struct fs))\/∃ k e,P.underlying t=some (.array k e)):∃ cs,x=.agg cs/\Good P B m t cs:=by
 obtain ⟨n,h⟩:=h
 rcases ht with ⟨fs,ht⟩|⟨k,e,ht⟩
 ·rw [ht] at h;obtain ⟨cs,h1,h2⟩:=h;exact ⟨cs,h1,n,h2⟩
 ·rw [ht] at h;obtain ⟨cs,h1,h2⟩:=h;exact ⟨cs,h1,n,h2⟩
theorem goodA.one {m:Ja1}{t:TypeId}{x:AV}(h:goodA P B m t x)(h1:∀ fs,P.underlying t≠some (.struct fs))(h2:∀ k e,P.underlying t≠some (.array k e)):∃ c,x=.one c/\Good P B m t [c]:=by
 obtain ⟨n,h⟩:=h
 split at h
 ·rename_i fs ht;exact absurd ht (h1 fs)
 ·rename_i k e ht;exact absurd ht (h2 k e)
 ·obtain ⟨c,q1,q2⟩:=h;exact ⟨c,q1,n,q2⟩
end
theorem Qs4 (cells:List CV)(off n:Nat):Jq4 cells off n=if n=0 then some [] else if off+n<=cells.length then some ((cells.drop off).take n) else none:=by
 by_cases h0:n=0
 ·subst h0;rw [if_pos rfl];rfl
 ·rw [if_neg h0]
  have key:∀ (n off:Nat),0<n->Jq4 cells off n=if off+n<=cells.length then some ((cells.drop off).take n) else none:=by
   intro n
   induction n with
   | zero=>intro off h;omega
   | succ n ih =>
    intro off _
    simp only [Jq4]
    rcases Nat.lt_or_ge off cells.length with hl|hl
    ·rw [List.getElem?_eq_getElem hl]
     simp only
     rcases Nat.eq_zero_or_pos n with hn|hn
     ·subst hn
      rw [if_pos (by omega),List.drop_eq_getElem_cons hl];rfl
     ·rw [ih (off+1) hn]
      by_cases hle:off+(n+1)<=cells.length
      ·rw [if_pos hle,if_pos (by omega),List.drop_eq_getElem_cons hl,List.take_succ_cons];rfl
      ·rw [if_neg hle,if_neg (by omega)];rfl
    ·rw [List.getElem?_eq_none hl,if_neg (by omega)]
  exact key n off (by omega)
attribute [push_cast] binN Xm5 Kn3 Kd1 Qb3 Jx9 Jq6 setMap Qc8 Kp2 Kd2 Qa7 Qc7 mkA AV.ent Jy3 Jh5 ceq Jj2 scT scI Vx3 Yd7 Vj0 Value.cells Ky0 Qq0 Qu2 Qu4 Vw9 Vx0 bmA svL svOf SV.cv Qu6 Qh7 Qu5 Vj9 Vj8 Vk0 Vj6 Qu8 DOp Vj4 Qu7 Qh9 Vx1 Vx2 DFl Xr5 Ye0 Plan.chain List.zip_cons_cons List.zip_nil_left Jp2 Jh3 Ji0 Kj0 opd ofV Jj4 Tm.get_cons putO selA Jt3 Kh6 Qs4 Jx2 setL AV.cells CV.isVal unA Vv8 Qh0 Qh1 usdA usA Kp5 Kj8 Vh3 BK.isRo setL Jz3 Qo3 Jz0 Kx8 Qm5 Qi8 Qu1 Ki7 lenA mm mmA Qd6 Yc6 Qp3 Kp9 Jq7 Qe2 Ve3 Vy4 Kp7 binA intA shA strA Kw5 eqA eqV_s Jp1 Qu0 Ji9 Jf3 Jn8 Xd0 Vm5 List.append_assoc List.cons_append List.nil_append List.map_cons List.map_nil List.getElem?_cons_zero List.getElem?_cons_succ List.set_cons_zero List.set_cons_succ List.length_cons List.length_nil List.length_append List.length_set List.all_cons List.all_nil List.getElem?_toArray List.toList_toArray List.drop_succ_cons List.drop_zero List.take_succ_cons List.take_zero Option.map_some Option.map_none Option.bind_some Option.bind_none Option.getD_some Option.isSome_some Nat.zero_add Nat.add_zero Nat.zero_mul Nat.one_mul Nat.mul_one Nat.mul_zero Nat.add_assoc Nat.succ_ne_self Int.toNat_natCast Int.cast_ofNat_Int Int.toNat_zero Int.toNat_one Bool.and_true Bool.true_and Bool.and_false Bool.false_and Bool.or_false Bool.or_true Bool.true_or Bool.false_or Bool.not_true Bool.not_false Bool.cond_true Bool.cond_false bne_self_eq_false beq_self_eq_true beq_true beq_false decide_true decide_false if_true if_false ite_true ite_false and_true true_and and_self and_false false_and Nat.le_refl Bool.false_eq_true Bool.true_eq_false not_true_eq_false not_false_eq_true Nat.lt_add_one ne_eq List.size_toArray Array.size_map List.map_toArray Array.range_zero' List.range_zero List.flatMap_nil List.range_succ List.getElem!_toArray List.getElem!_cons_zero List.getElem!_cons_succ iw0 iw1 iw2 iw3 iw4 iw5 iw6 iw7 iw8 iw9 iw10 iw11 iw12 iw13 iw14 iw15 iw16 iw17 iw18 iw19 iw20 iw21 iw22 iw23 iw24 iw25 iw26 iw27 iw28 iw29 iw30 iw31 iw32 iw33 iw34 iw35 iw36 iw37 iw38 iw39 iw40 rg2 rg3 rg4 rg5 rg6 rg8 rg16
theorem Tru:True:=trivial
theorem ca2 {A B:Prop}(a:A)(b:B):A/\B:=⟨a,b⟩
theorem ca3 {A B C:Prop}(a:A)(b:B)(c:C):A/\B/\C:=⟨a,b,c⟩
theorem ca4 {A B C D:Prop}(a:A)(b:B)(c:C)(d:D):A/\B/\C/\D:=⟨a,b,c,d⟩
theorem Kh9 {C G:Prop}(cs:C)(h:C->G:=by
  intro cs
  repeat (first
   | exact cs|exact cs _|exact cs _ _|exact cs _ _ _|exact cs _ _ _ _|exact cs _ _ _ _ _|exact cs _ _ _ _ _ _|exact cs _ _ _ _ _ _ _|exact cs _ _ _ _ _ _ _ _|exact cs _ _ _ _ _ _ _ _ _
   | exact cs.1|exact cs.1 _|exact cs.1 _ _|exact cs.1 _ _ _|exact cs.1 _ _ _ _|exact cs.1 _ _ _ _ _|exact cs.1 _ _ _ _ _ _|exact cs.1 _ _ _ _ _ _ _|exact cs.1 _ _ _ _ _ _ _ _|exact cs.1 _ _ _ _ _ _ _ _ _
   | replace cs:=cs.2)):G:=h cs
section
variable {P:Program}{nt:Nat}{tm:Tm}{mem:Ja1}{Q:Exit->Tm->Ja1->Prop}
theorem RetP.z {rs:List ResultVar}{ret:AV}{ex:Exit}{M:Ja1}{F:Prop}(hw:MWf mem.length mem)(f:F)(hp:mem <+:M:=by first|exact List.prefix_append _ _|exact List.prefix_rfl)(hex:ex=.normal\/ex=.ret:=by first|exact Or.inr rfl|exact Or.inl rfl)
  (hres:F->Je0 P rs tm M=some ret:=by intro f;(simp only [Je0,Jb1,Jb9,AV.tv,push_cast,simprocAttr,f])<;>rfl) (hb:ret.below mem.length=true:=by rfl):RetP P rs mem.length ret mem ex tm M:=by
 obtain ⟨extra,rfl⟩:=hp
 exact RetP.drop hex (hres f) hb hw
theorem Ctr.en {f:FuncId}{fn:Func}{c:Code}{args:List AV}{ret:AV}{mem':Ja1}(hf:P.funcs[f]?=some fn)(rs:List ResultVar)(nt:Nat)
  (h : MWf mem.length mem → ∀ Q : Exit → Tm → Ja1 → Prop, (∀ ex tm m, RetP P rs mem.length ret mem' ex tm m → Q ex tm m) → AW P nt c (Jp2 0 args) mem Q) (hb : fn.body = some c := by rfl) (hname : (fn.name == "runtime.NumGoroutine") = false := by decide) (hrs : fn.results.toList = rs := by rfl) (hnt : fn.ntmps = nt := by rfl) : Ctr P f args mem ret mem' := Ctr.enter hf hb hname hrs hnt h
theorem AW.c {c y:Code}{ls:List (Array Oper)}{F C B:Prop}(n:Nat)(f:F)(cs:C)(hB:B)(h:Xs2 n c=some (ls,y):=by rfl)(hd:ls.all (fun a=>a.toList.all (Jz6 nt))=true:=by decide)
  (hk:F->C->B->∀ K:Tm->Ja1->Prop,(∀ tm' mem',AW P nt y tm' mem' Q->K tm' mem')->RL (ls.map fun a K tm mem=>AOps P a a.toList tm mem K) K tm mem:=by
   intro f cs hB K hK
   repeat (first
    | simp only [push_cast,simprocAttr,f]
    | exact hK _ _ hB
    | refine CThen.by (Kh9 cs) ?_)):AW P nt c tm mem Q :=
 AW.sr n (hk f cs hB) h hd
theorem AW.g {id:Nat}{l:List Oper}{F C B:Prop}(f:F)(cs:C)(hB:B)(hd:l.all (Jz6 nt)=true:=by decide)
  (hk:F->C->B->∀ K:Tm->Ja1->Prop,(∀ tm' mem',Q .normal tm' mem'->K tm' mem')->AOps P l.toArray l tm mem K:=by
   intro f cs hB K hK
   repeat (first
    | simp only [push_cast,simprocAttr,f]
    | exact hK _ _ hB
    | refine CThen.by (Kh9 cs) ?_)):AW P nt (.region id l.toArray false) tm mem Q :=
 AW.rg (hk f cs hB _ fun _ _ h=>h) hd
theorem AW.e {id:Nat}{l:List Oper}{F C B:Prop}(pl:List Plan)(hf:P.follows .mixedOrders=true)(f:F)(cs:C)(hB:B)(hl:pl.length=l.length:=by decide)(hp:Jx6 nt (l.zip pl)=true:=by kernel_rfl)
  (hk:F->C->B->∀ K:Tm->Ja1->Prop,(∀ tm' mem',Q .normal tm' mem'->K tm' mem')->AOpsD P l.toArray (l.zip pl) tm mem [mem] [] K:=by
   intro f cs hB K hK
   repeat (first
    | simp only [push_cast,simprocAttr,f]
    | exact hK _ _ hB
    | refine DCall.z (Kh9 cs) ?_
    | refine DCall.by (Kh9 cs) ?_
    | refine DCallW.by (Kh9 cs) ?_
    | refine DUp.by (by first|rfl|(simp only [List.append_assoc,List.cons_append,List.nil_append];rfl)) (by first|rfl|(simp only [List.append_assoc,List.cons_append,List.nil_append];rfl)) ?_
    | refine DExt.by (by first|rfl|exact (List.append_nil _).symm|(simp only [List.append_assoc,List.cons_append,List.nil_append];rfl)) ?_
    | refine Kq3 (by simp only [Kj3,Qd8,push_cast,simprocAttr,f]) ?_)):AW P nt (.region id l.toArray true) tm mem Q :=
 AW.draw pl hf hl hp (hk f cs hB _ fun _ _ h=>h)
theorem AW.d {id:Nat}{l:List Oper}{y:Code}{F C B:Prop}(pl:List Plan)(hf:P.follows .mixedOrders=true)(f:F)(cs:C)(hB:B)(hl:pl.length=l.length:=by decide)(hp:Jx6 nt (l.zip pl)=true:=by kernel_rfl)
  (hk:F->C->B->∀ K:Tm->Ja1->Prop,(∀ tm' mem',AW P nt y tm' mem' Q->K tm' mem')->AOpsD P l.toArray (l.zip pl) tm mem [mem] [] K:=by
   intro f cs hB K hK
   repeat (first
    | simp only [push_cast,simprocAttr,f]
    | exact hK _ _ hB
    | refine DCall.z (Kh9 cs) ?_
    | refine DCall.by (Kh9 cs) ?_
    | refine DCallW.by (Kh9 cs) ?_
    | refine DUp.by (by first|rfl|(simp only [List.append_assoc,List.cons_append,List.nil_append];rfl)) (by first|rfl|(simp only [List.append_assoc,List.cons_append,List.nil_append];rfl)) ?_
    | refine DExt.by (by first|rfl|exact (List.append_nil _).symm|(simp only [List.append_assoc,List.cons_append,List.nil_append];rfl)) ?_
    | refine Kq3 (by simp only [Kj3,Qd8,push_cast,simprocAttr,f]) ?_)):AW P nt (.seq (.region id l.toArray true) y) tm mem Q :=
 AW.seq (AW.draw pl hf hl hp (hk f cs hB _ fun _ _ h=>h))
end
def Wn (_:List (List Plan))(_:Nat)(G:Prop):Prop:=G
theorem W_o {G:Prop}{L:List (List Plan)}(h:G):Wn L 0 G:=h
theorem W_h {X Y:Prop}{k:Nat}{L:List (List Plan)}(h:X->Y)(g:Wn L k X):Wn L (k+1) Y:=h g
section
variable {P:Program}{nt k:Nat}{L:List (List Plan)}{tm:Tm}{mem:Ja1}{Q:Exit->Tm->Ja1->Prop}
theorem W_r {id:Nat}{l:List Oper}{y:Code}(h:∀ K:Tm->Ja1->Prop,(∀ tm' mem',Wn L k (AW P nt y tm' mem' Q)->K tm' mem')->AOps P l.toArray l tm mem K)(hd:l.all (Jz6 nt)=true:=by decide):Wn L (k+1) (AW P nt (.seq (.region id l.toArray false) y) tm mem Q) :=
 AW.seq (AW.region hd (h _ fun _ _ h=>h))
theorem W_g {id:Nat}{l:List Oper}(h:∀ K:Tm->Ja1->Prop,(∀ tm' mem',Wn L k (Q .normal tm' mem')->K tm' mem')->AOps P l.toArray l tm mem K)(hd:l.all (Jz6 nt)=true:=by decide):Wn L (k+1) (AW P nt (.region id l.toArray false) tm mem Q) :=
 AW.region hd (h _ fun _ _ h=>h)
theorem W_d {id:Nat}{l:List Oper}{y:Code}{pl:List Plan}(hf:P.follows .mixedOrders=true)(h:∀ K:Tm->Ja1->Prop,(∀ tm' mem',Wn L k (AW P nt y tm' mem' Q)->K tm' mem')->AOpsD P l.toArray (l.zip pl) tm mem [mem] [] K)(hl:pl.length=l.length:=by decide)(hp:Jx6 nt (l.zip pl)=true:=by kernel_rfl):Wn (pl::L) (k+1) (AW P nt (.seq (.region id l.toArray true) y) tm mem Q) :=
 AW.seq (AW.draw pl hf hl hp (h _ fun _ _ h=>h))
theorem W_x {id:Nat}{l:List Oper}{pl:List Plan}(hf:P.follows .mixedOrders=true)(h:∀ K:Tm->Ja1->Prop,(∀ tm' mem',Wn L k (Q .normal tm' mem')->K tm' mem')->AOpsD P l.toArray (l.zip pl) tm mem [mem] [] K)(hl:pl.length=l.length:=by decide)(hp:Jx6 nt (l.zip pl)=true:=by kernel_rfl):Wn (pl::L) (k+1) (AW P nt (.region id l.toArray true) tm mem Q) :=
 AW.draw pl hf hl hp (h _ fun _ _ h=>h)
theorem W_q {x y:Code}(h:∀ K:Tm->Ja1->Prop,(∀ tm' mem',AW P nt y tm' mem' Q->K tm' mem')->Wn L k (AW P nt x tm mem (Thn K Q))):Wn L (k+1) (AW P nt (.seq x y) tm mem Q):=AW.q h
theorem W_i {c:Operand}{x y:Code}(hc:opd tm c=.one (.bool true))(h:Wn L k (AW P nt y tm mem Q)):Wn L (k+1) (AW P nt (.seq (.cond c .skip x) y) tm mem Q):=AW.ifT hc h
theorem W_j {c:Operand}{x y:Code}(hc:opd tm c=.one (.bool false))(h:Wn L k (AW P nt y tm mem Q)):Wn L (k+1) (AW P nt (.seq (.cond c x .skip) y) tm mem Q):=AW.ifF hc h
theorem W_b {id:Nat}{c:Code}(h:Wn L k (AW P nt c tm mem (InB id Q))):Wn L (k+1) (AW P nt (.block id c) tm mem Q):=AW.b h
theorem W_z (h:Wn L k (Q .normal tm mem)):Wn L (k+1) (AW P nt .skip tm mem Q):=AW.z h
theorem W_v {id:Nat}(h:Wn L k (Q (.exit id) tm mem)):Wn L (k+1) (AW P nt (.exit id) tm mem Q):=AW.v h
theorem W_t {c:Operand}{x y:Code}(hc:opd tm c=.one (.bool true))(h:Wn L k (AW P nt x tm mem Q)):Wn L (k+1) (AW P nt (.cond c x y) tm mem Q):=AW.y hc h
theorem W_u {c:Operand}{x y:Code}(hc:opd tm c=.one (.bool false))(h:Wn L k (AW P nt y tm mem Q)):Wn L (k+1) (AW P nt (.cond c x y) tm mem Q):=AW.x hc h
theorem W_s {c:Code}{n:Nat}(h:∀ K:Tm->Ja1->Prop,(∀ tm' mem',ARounds P nt c Q n tm' mem'->K tm' mem')->Wn L k (AW P nt c tm mem (Thn K Q))):Wn L (k+1) (ARounds P nt c Q (n+1) tm mem):=ARounds.s h
theorem W_e (h:Wn L k (Q .ret tm mem)):Wn L (k+1) (AW P nt .ret tm mem Q):=AW.ret h
variable {K:Tm->Ja1->Prop}{id:Nat}
theorem W_tn (h:Wn L k (K tm mem)):Wn L k (Thn K Q .normal tm mem):=h
theorem W_te (h:Wn L k (Q (.exit id) tm mem)):Wn L k (Thn K Q (.exit id) tm mem):=h
theorem W_tr (h:Wn L k (Q .ret tm mem)):Wn L k (Thn K Q .ret tm mem):=h
theorem W_bn (h:Wn L k (Q .normal tm mem)):Wn L k (InB id Q .normal tm mem):=h
theorem W_br (h:Wn L k (Q .ret tm mem)):Wn L k (InB id Q .ret tm mem):=h
theorem W_bh (h:Wn L k (Q .normal tm mem)):Wn L k (InB id Q (.exit id) tm mem):=Jq0 h
theorem W_bf {id':Nat}(hne:id'≠id)(h:Wn L k (Q (.exit id') tm mem)):Wn L k (InB id Q (.exit id') tm mem):=Vj2 hne h
theorem W_p {G:Prop}(h:G):Wn L (k+1) G:=h
theorem W.o {G:Prop}{L:List (List Plan)}(h:G):Wn L 0 G:=h
theorem W.h {X Y:Prop}{k:Nat}{L:List (List Plan)}(h:X->Y)(g:Wn L k X):Wn L (k+1) Y:=h g
theorem W.r {id:Nat}{l:List Oper}{y:Code}(h:∀ K:Tm->Ja1->Prop,(∀ tm' mem',Wn L k (AW P nt y tm' mem' Q)->K tm' mem')->AOps P l.toArray l tm mem K)(hd:l.all (Jz6 nt)=true:=by decide):Wn L (k+1) (AW P nt (.seq (.region id l.toArray false) y) tm mem Q) :=
 AW.seq (AW.region hd (h _ fun _ _ h=>h))
theorem W.g {id:Nat}{l:List Oper}(h:∀ K:Tm->Ja1->Prop,(∀ tm' mem',Wn L k (Q .normal tm' mem')->K tm' mem')->AOps P l.toArray l tm mem K)(hd:l.all (Jz6 nt)=true:=by decide):Wn L (k+1) (AW P nt (.region id l.toArray false) tm mem Q) :=
 AW.region hd (h _ fun _ _ h=>h)
theorem W.d {id:Nat}{l:List Oper}{y:Code}{pl:List Plan}(hf:P.follows .mixedOrders=true)(h:∀ K:Tm->Ja1->Prop,(∀ tm' mem',Wn L k (AW P nt y tm' mem' Q)->K tm' mem')->AOpsD P l.toArray (l.zip pl) tm mem [mem] [] K)(hl:pl.length=l.length:=by decide)(hp:Jx6 nt (l.zip pl)=true:=by kernel_rfl):Wn (pl::L) (k+1) (AW P nt (.seq (.region id l.toArray true) y) tm mem Q) :=
 AW.seq (AW.draw pl hf hl hp (h _ fun _ _ h=>h))
theorem W.x {id:Nat}{l:List Oper}{pl:List Plan}(hf:P.follows .mixedOrders=true)(h:∀ K:Tm->Ja1->Prop,(∀ tm' mem',Wn L k (Q .normal tm' mem')->K tm' mem')->AOpsD P l.toArray (l.zip pl) tm mem [mem] [] K)(hl:pl.length=l.length:=by decide)(hp:Jx6 nt (l.zip pl)=true:=by kernel_rfl):Wn (pl::L) (k+1) (AW P nt (.region id l.toArray true) tm mem Q) :=
 AW.draw pl hf hl hp (h _ fun _ _ h=>h)
theorem W.q {x y:Code}(h:∀ K:Tm->Ja1->Prop,(∀ tm' mem',AW P nt y tm' mem' Q->K tm' mem')->Wn L k (AW P nt x tm mem (Thn K Q))):Wn L (k+1) (AW P nt (.seq x y) tm mem Q):=AW.q h
theorem W.i {c:Operand}{x y:Code}(hc:opd tm c=.one (.bool true))(h:Wn L k (AW P nt y tm mem Q)):Wn L (k+1) (AW P nt (.seq (.cond c .skip x) y) tm mem Q):=AW.ifT hc h
theorem W.b {id:Nat}{c:Code}(h:Wn L k (AW P nt c tm mem (InB id Q))):Wn L (k+1) (AW P nt (.block id c) tm mem Q):=AW.b h
theorem W.z (h:Wn L k (Q .normal tm mem)):Wn L (k+1) (AW P nt .skip tm mem Q):=AW.z h
theorem W.v {id:Nat}(h:Wn L k (Q (.exit id) tm mem)):Wn L (k+1) (AW P nt (.exit id) tm mem Q):=AW.v h
theorem W.t {c:Operand}{x y:Code}(hc:opd tm c=.one (.bool true))(h:Wn L k (AW P nt x tm mem Q)):Wn L (k+1) (AW P nt (.cond c x y) tm mem Q):=AW.y hc h
theorem W.u {c:Operand}{x y:Code}(hc:opd tm c=.one (.bool false))(h:Wn L k (AW P nt y tm mem Q)):Wn L (k+1) (AW P nt (.cond c x y) tm mem Q):=AW.x hc h
theorem W.s {c:Code}{n:Nat}(h:∀ K:Tm->Ja1->Prop,(∀ tm' mem',ARounds P nt c Q n tm' mem'->K tm' mem')->Wn L k (AW P nt c tm mem (Thn K Q))):Wn L (k+1) (ARounds P nt c Q (n+1) tm mem):=ARounds.s h
theorem W.e (h:Wn L k (Q .ret tm mem)):Wn L (k+1) (AW P nt .ret tm mem Q):=AW.ret h
variable {K:Tm->Ja1->Prop}{id:Nat}
theorem W.tr (h:Wn L k (Q .ret tm mem)):Wn L k (Thn K Q .ret tm mem):=h
theorem W.bn (h:Wn L k (Q .normal tm mem)):Wn L k (InB id Q .normal tm mem):=h
theorem W.bh (h:Wn L k (Q .normal tm mem)):Wn L k (InB id Q (.exit id) tm mem):=Jq0 h
theorem W.p {G:Prop}(h:G):Wn L (k+1) G:=h
theorem Ws {X:Prop}(h:X:=by
  intro f cs hB
  repeat (first
   | with_reducible refine W_r fun K8 g9=>?_
   | with_reducible refine W_g fun K8 g9=>?_
   | with_reducible refine W_d fol fun K8 g9=>?_
   | with_reducible refine W_x fol fun K8 g9=>?_
   | (with_reducible refine g9 _ _ ?_;clear g9 K8)
   | (revert g9;intro g9;simp only [push_cast,simprocAttr,f])
   | (revert g9;intro g9;refine CThen.by (Kh9 cs) ?_)
   | (revert g9;intro g9;refine DCall.z (Kh9 cs) ?_)
   | (revert g9;intro g9;refine DCall.by (Kh9 cs) ?_)
   | (revert g9;intro g9;refine DCallW.by (Kh9 cs) ?_)
   | refine DUp.by (by first|rfl|(simp only [List.append_assoc,List.cons_append,List.nil_append];rfl)) (by first|rfl|(simp only [List.append_assoc,List.cons_append,List.nil_append];rfl)) ?_
   | refine DExt.by (by first|rfl|exact (List.append_nil _).symm|(simp only [List.append_assoc,List.cons_append,List.nil_append];rfl)) ?_
   | refine Kq3 (by simp only [Kj3,Qd8,push_cast,simprocAttr,f]) ?_
   | ((with_reducible refine W_i ?_ ?_);exact rfl)
   | ((with_reducible refine W_j ?_ ?_);exact rfl)
   | with_reducible refine W_q fun K9 h9=>?_
   | with_reducible refine W_b ?_
   | ((with_reducible refine W_t ?_ ?_);exact rfl)
   | ((with_reducible refine W_u ?_ ?_);exact rfl)
   | with_reducible refine W_z ?_
   | with_reducible refine W_tn ?_
   | with_reducible refine W_v ?_
   | with_reducible refine W_te ?_
   | with_reducible refine W_bh ?_
   | with_reducible refine W_bn ?_
   | ((with_reducible refine W_bf ?_ ?_);decide)
   | (with_reducible refine W_h (h9 _ _) ?_;clear h9 K9)
   | with_reducible refine W_h (J0 _ _) ?_
   | with_reducible refine W_h (J1 _ _) ?_
   | with_reducible refine W_h (J2 _ _) ?_
   | with_reducible refine W_h (J3 _ _) ?_
   | with_reducible refine W_h (J4 _ _) ?_
   | with_reducible refine W_h (J5 _ _) ?_
   | with_reducible refine W_h (J6 _ _) ?_
   | with_reducible refine W_h (J7 _ _) ?_
   | with_reducible refine W_s fun K9 h9=>?_
   | with_reducible refine W_e ?_
   | with_reducible refine W_tr ?_
   | with_reducible refine W_br ?_
   | exact W_p (hQ _ _ _ (RetP.z hwf (ca2 f hB))))
  all_goals
   with_reducible refine W_o ?_
   repeat (revert K9)
   exact hB):X:=h
theorem AW.wd {G F C B:Prop}(L:List (List Plan))(k:Nat)(f:F)(cs:C)(hB:B)(h:F->C->B->Wn L k G:=by exact Ws):G:=h f cs hB
theorem AW.w {G F C B:Prop}(k:Nat)(f:F)(cs:C)(hB:B)(h:F->C->B->Wn [] k G:=by exact Ws):G:=h f cs hB
theorem AW.fd {G F C E:Prop}(L:List (List Plan))(f:F)(cs:C)(e:E:=by exact trivial)(h:F->C->E->Wn L 1000 G:=by exact Ws):G:=h f cs e
def Wl (_:List (List Plan)):Prop:=True
theorem AW.fl {G F C E:Prop}{L:List (List Plan)}(l:Wl L)(f:F)(cs:C)(e:E)(h:F->C->E->Wn L 1000 G:=by exact Ws):G:=h f cs e
theorem AW.f {G F C E:Prop}(f:F)(cs:C)(e:E:=by exact trivial)(h:F->C->E->Wn [] 1000 G:=by exact Ws):G:=h f cs e
theorem Wk {ι:Type}{I:ι->Prop}{μ:ι->Nat}{n:Nat}{W:ι->Prop}{F E:Prop}(x:ι)(f:F)(e:E)(hI:I x:=by omega)(hm:μ x<n:=by omega)
  (h:F->E->W x:=by
   intro f e
   try simp only [Ja9,Ja2,push_cast,simprocAttr,f,e]
   exact Weak.same (by simp only [KS,simprocAttr,e]) (by first|rfl|simp only [KS,simprocAttr,e])):∃ j,I j/\μ j<n/\W j:=⟨x,hI,hm,h f e⟩
theorem Wj {ι:Type}{I:ι->Prop}{μ:ι->Nat}{n:Nat}{W:ι->Prop}{F E D:Prop}(x:ι)(f:F)(e:E)(d:D)(hI:I x:=by omega)(hm:μ x<n:=by omega)
  (h:F->E->D->W x:=by
   intro f e d
   try simp only [Ja9,Ja2,push_cast,simprocAttr,f,e]
   exact Weak.to (by simp only [KS,simprocAttr,e]) (by first|rfl|(simp only [List.append_assoc,List.cons_append,List.nil_append];rfl)) (by first|rfl|(simp [AV.below,CV.below,d];done)|(simp [AV.below,CV.below,d];omega)) (by
    first|exact hwf|refine MWf.app (hwf.grow (by simp)) ?_
    repeat (first|exact Jb3|(refine Ja0 ?_ ?_;· first|rfl|(simp [CV.below,d];done)|(simp [CV.below,d];omega))))):∃ j,I j/\μ j<n/\W j:=⟨x,hI,hm,h f e d⟩
theorem AW.lk {ι:Type}{c:Code}{F E B:Prop}(keep:List Nat)(I:ι->Prop)(V:ι->Tm)(U:ι->List (Nat × Blk))(μ:ι->Nat)(i:ι)(f:F)(e:E)(hB:B)(hi:I i:=by omega)
  (hv:F->E->Keeps tm (V i):=by intro f e;first|rfl|(simp only [KS,simprocAttr,e]<;>repeat' (first|rfl|apply And.intro)))
  (hm:F->E->Ja2 mem (U i)=mem:=by intro f e;first|rfl|(simp only [Ja2,push_cast,simprocAttr,f,e]<;>rfl))
  (h:F->B->∀ i,I i->AW P nt c (V i++Ja9 tm keep) (Ja2 mem (U i)) (Thn (fun tm' mem'=>∃ j,I j/\μ j < μ i/\Weak nt tm' mem' (V j++Ja9 tm keep) (Ja2 mem (U j))) Q):=by
   intro f hB i hi
   try simp only [Ja9,Ja2,push_cast,simprocAttr,f]
   revert i hi
   exact hB):AW P nt (.loop c) tm mem Q:=AW.loopK keep I V U μ i hi (hv f e) (hm f e) (h f hB)
end
section
variable {P:Program}
theorem Ctr.f {f : FuncId} {fn : Func} {c : Code} {args : List AV} {ret : AV} {mem mem' : Ja1} {F C E : Prop} (hf : P.funcs[f]? = some fn) (rs : List ResultVar) (nt : Nat) (p : F) (cs : C) (e : E := by exact trivial) (hb : fn.body = some c := by rfl) (hname : (fn.name == "runtime.NumGoroutine") = false := by decide) (hrs : fn.results.toList = rs := by rfl) (hnt : fn.ntmps = nt := by rfl)
  (h:F->C->E->MWf mem.length mem->∀ Q:Exit->Tm->Ja1->Prop,(∀ ex tm m,RetP P rs mem.length ret mem' ex tm m->Q ex tm m)->AW P nt c (Jp2 0 args) mem Q:=by intro p cs e hwf Q hQ;exact AW.f p cs e):Ctr P f args mem ret mem':=Ctr.enter hf hb hname hrs hnt (h p cs e)
theorem Ctr.fd {f : FuncId} {fn : Func} {c : Code} {args : List AV} {ret : AV} {mem mem' : Ja1} {F C E : Prop} (hf : P.funcs[f]? = some fn) (rs : List ResultVar) (nt : Nat) (L : List (List Plan)) (p : F) (cs : C) (e : E := by exact trivial) (hb : fn.body = some c := by rfl) (hname : (fn.name == "runtime.NumGoroutine") = false := by decide) (hrs : fn.results.toList = rs := by rfl) (hnt : fn.ntmps = nt := by rfl)
  (h:Wl L->F->C->E->MWf mem.length mem->∀ Q:Exit->Tm->Ja1->Prop,(∀ ex tm m,RetP P rs mem.length ret mem' ex tm m->Q ex tm m)->AW P nt c (Jp2 0 args) mem Q:=by intro l9 p cs e hwf Q hQ;exact AW.fl l9 p cs e):Ctr P f args mem ret mem':=Ctr.enter hf hb hname hrs hnt (h trivial p cs e)
end
end Go.Eng
set_option maxRecDepth 100000
namespace Go.Proofs.YtaannomfigammaaGreat
open Go Go.Eng
theorem fol:Tryz.prog.follows .mixedOrders=true:=by kernel_rfl
theorem sz2:Jf5 Tryz.prog 2=some 1:=by kernel_rfl
theorem by2:Kq4 Tryz.prog 2=some 8:=by kernel_rfl
theorem ag2:Jd2 Tryz.prog 2=some false:=by kernel_rfl
theorem zr2:Jc0 Tryz.prog 2=some (.int .i64 0):=by kernel_rfl
theorem sz3:Jf5 Tryz.prog 3=some 1:=by kernel_rfl
theorem by3:Kq4 Tryz.prog 3=some 8:=by kernel_rfl
theorem ag3:Jd2 Tryz.prog 3=some false:=by kernel_rfl
theorem zr3:Jc0 Tryz.prog 3=some (.int .i64 0):=by kernel_rfl
theorem sz4:Jf5 Tryz.prog 4=some 1:=by kernel_rfl
theorem ag4:Jd2 Tryz.prog 4=some false:=by kernel_rfl
theorem sz22:Jf5 Tryz.prog 22=some 1:=by kernel_rfl
theorem ag22:Jd2 Tryz.prog 22=some false:=by kernel_rfl
theorem zr22:Jc0 Tryz.prog 22=some (.int .u64 0):=by kernel_rfl
theorem eg23:Tryz.prog.eqGuardType Tryz.prog.depth 23=false:=by kernel_rfl
theorem sz24:Jf5 Tryz.prog 24=some 3:=by kernel_rfl
theorem by24:Kq4 Tryz.prog 24=some 24:=by kernel_rfl
theorem ag24:Jd2 Tryz.prog 24=some true:=by kernel_rfl
theorem eg24:Tryz.prog.eqGuardType Tryz.prog.depth 24=false:=by kernel_rfl
theorem zr24:Jc0 Tryz.prog 24=some (.agg #[(.int .i64 0),(.int .i64 0),(.int .i64 0)]):=by kernel_rfl
theorem eg25:Tryz.prog.eqGuardType Tryz.prog.depth 25=false:=by kernel_rfl
theorem si25:Tryz.prog.stoodInHeld 25=false:=by kernel_rfl
theorem sz26:Jf5 Tryz.prog 26=some 10:=by kernel_rfl
theorem ag26:Jd2 Tryz.prog 26=some true:=by kernel_rfl
theorem eg26:Tryz.prog.eqGuardType Tryz.prog.depth 26=false:=by kernel_rfl
theorem si26:Tryz.prog.stoodInHeld 26=false:=by kernel_rfl
theorem zr26:Jc0 Tryz.prog 26=some (.agg #[(.int .i64 0),(.int .i64 0),(.int .i64 0),(.int .i64 0),(.int .i64 0),(.int .i64 0),(.int .u64 0),(.int .i64 0),(.int .i64 0),(.int .i64 0)]):=by kernel_rfl
theorem sz27:Jf5 Tryz.prog 27=some 1:=by kernel_rfl
theorem ag27:Jd2 Tryz.prog 27=some false:=by kernel_rfl
theorem sz28:Jf5 Tryz.prog 28=some 1:=by kernel_rfl
theorem ag28:Jd2 Tryz.prog 28=some false:=by kernel_rfl
theorem sz29:Jf5 Tryz.prog 29=some 1:=by kernel_rfl
theorem ag29:Jd2 Tryz.prog 29=some false:=by kernel_rfl
theorem sz30:Jf5 Tryz.prog 30=some 1:=by kernel_rfl
theorem ag30:Jd2 Tryz.prog 30=some false:=by kernel_rfl
theorem eg31:Tryz.prog.eqGuardType Tryz.prog.depth 31=false:=by kernel_rfl
theorem si31:Tryz.prog.stoodInHeld 31=false:=by kernel_rfl
theorem sz32:Jf5 Tryz.prog 32=some 17:=by kernel_rfl
theorem ag32:Jd2 Tryz.prog 32=some true:=by kernel_rfl
theorem eg32:Tryz.prog.eqGuardType Tryz.prog.depth 32=false:=by kernel_rfl
theorem si32:Tryz.prog.stoodInHeld 32=false:=by kernel_rfl
theorem sz37:Jf5 Tryz.prog 37=some 1:=by kernel_rfl
theorem ag37:Jd2 Tryz.prog 37=some false:=by kernel_rfl
theorem sz40:Jf5 Tryz.prog 40=some 1:=by kernel_rfl
theorem by40:Kq4 Tryz.prog 40=some 8:=by kernel_rfl
theorem ag40:Jd2 Tryz.prog 40=some false:=by kernel_rfl
theorem zr40:Jc0 Tryz.prog 40=some (.int .i64 0):=by kernel_rfl
theorem eg41:Tryz.prog.eqGuardType Tryz.prog.depth 41=false:=by kernel_rfl
theorem si41:Tryz.prog.stoodInHeld 41=false:=by kernel_rfl
theorem sz42:Jf5 Tryz.prog 42=some 3:=by kernel_rfl
theorem by42:Kq4 Tryz.prog 42=some 24:=by kernel_rfl
theorem ag42:Jd2 Tryz.prog 42=some true:=by kernel_rfl
theorem eg42:Tryz.prog.eqGuardType Tryz.prog.depth 42=false:=by kernel_rfl
theorem si42:Tryz.prog.stoodInHeld 42=false:=by kernel_rfl
theorem zr42:Jc0 Tryz.prog 42=some (.agg #[(.int .i64 0),(.int .i64 0),(.int .i64 0)]):=by kernel_rfl
theorem eg43:Tryz.prog.eqGuardType Tryz.prog.depth 43=false:=by kernel_rfl
theorem si43:Tryz.prog.stoodInHeld 43=false:=by kernel_rfl
theorem sz44:Jf5 Tryz.prog 44=some 10:=by kernel_rfl
theorem ag44:Jd2 Tryz.prog 44=some true:=by kernel_rfl
theorem eg44:Tryz.prog.eqGuardType Tryz.prog.depth 44=false:=by kernel_rfl
theorem si44:Tryz.prog.stoodInHeld 44=false:=by kernel_rfl
theorem zr44:Jc0 Tryz.prog 44=some (.agg #[(.int .i64 0),(.int .i64 0),(.int .i64 0),(.int .i64 0),(.int .i64 0),(.int .i64 0),(.int .u64 0),(.int .i64 0),(.int .i64 0),(.int .i64 0)]):=by kernel_rfl
theorem eg45:Tryz.prog.eqGuardType Tryz.prog.depth 45=false:=by kernel_rfl
theorem si45:Tryz.prog.stoodInHeld 45=false:=by kernel_rfl
theorem sz46:Jf5 Tryz.prog 46=some 3:=by kernel_rfl
theorem eg46:Tryz.prog.eqGuardType Tryz.prog.depth 46=false:=by kernel_rfl
theorem si46:Tryz.prog.stoodInHeld 46=false:=by kernel_rfl
theorem zr46:Jc0 Tryz.prog 46=some (.agg #[(.int .i64 0),(.int .i64 0),(.int .i64 0)]):=by kernel_rfl
theorem sz47:Jf5 Tryz.prog 47=some 1:=by kernel_rfl
theorem ag47:Jd2 Tryz.prog 47=some false:=by kernel_rfl
theorem sz48:Jf5 Tryz.prog 48=some 1:=by kernel_rfl
theorem ag48:Jd2 Tryz.prog 48=some false:=by kernel_rfl
theorem sz49:Jf5 Tryz.prog 49=some 1:=by kernel_rfl
theorem ag49:Jd2 Tryz.prog 49=some false:=by kernel_rfl
theorem sz50:Jf5 Tryz.prog 50=some 1:=by kernel_rfl
theorem ag50:Jd2 Tryz.prog 50=some false:=by kernel_rfl
theorem eg51:Tryz.prog.eqGuardType Tryz.prog.depth 51=false:=by kernel_rfl
theorem si51:Tryz.prog.stoodInHeld 51=false:=by kernel_rfl
theorem sz52:Jf5 Tryz.prog 52=some 17:=by kernel_rfl
theorem ag52:Jd2 Tryz.prog 52=some true:=by kernel_rfl
theorem eg52:Tryz.prog.eqGuardType Tryz.prog.depth 52=false:=by kernel_rfl
theorem si52:Tryz.prog.stoodInHeld 52=false:=by kernel_rfl
theorem zr52:Jc0 Tryz.prog 52=some (.agg #[(.int .i64 0),(.int .i64 0),(.int .i64 0),(.int .i64 0),(.int .i64 0),(.int .i64 0),(.int .u64 0),(.int .i64 0),(.int .i64 0),(.int .i64 0),(.int .i64 0),(.int .i64 0),(.int .i64 0),(.slice none 0 0),(.slice none 0 0),(.slice none 0 0),(.slice none 0 0)]):=by kernel_rfl
theorem sz54:Jf5 Tryz.prog 54=some 3:=by kernel_rfl
theorem by54:Kq4 Tryz.prog 54=some 24:=by kernel_rfl
theorem ag54:Jd2 Tryz.prog 54=some true:=by kernel_rfl
theorem eg54:Tryz.prog.eqGuardType Tryz.prog.depth 54=false:=by kernel_rfl
theorem zr54:Jc0 Tryz.prog 54=some (.agg #[(.int .i64 0),(.int .i64 0),(.int .i64 0)]):=by kernel_rfl
theorem eg55:Tryz.prog.eqGuardType Tryz.prog.depth 55=false:=by kernel_rfl
theorem si55:Tryz.prog.stoodInHeld 55=false:=by kernel_rfl
theorem sz56:Jf5 Tryz.prog 56=some 15:=by kernel_rfl
theorem ag56:Jd2 Tryz.prog 56=some true:=by kernel_rfl
theorem eg56:Tryz.prog.eqGuardType Tryz.prog.depth 56=false:=by kernel_rfl
theorem si56:Tryz.prog.stoodInHeld 56=false:=by kernel_rfl
theorem zr56:Jc0 Tryz.prog 56=some (.agg #[(.int .i64 0),(.int .i64 0),(.int .i64 0),(.int .i64 0),(.int .i64 0),(.int .i64 0),(.int .i64 0),(.int .i64 0),(.int .i64 0),(.int .i64 0),(.int .i64 0),(.int .i64 0),(.int .i64 0),(.int .i64 0),(.int .i64 0)]):=by kernel_rfl
theorem eg58:Tryz.prog.eqGuardType Tryz.prog.depth 58=false:=by kernel_rfl
theorem si58:Tryz.prog.stoodInHeld 58=false:=by kernel_rfl
theorem sz59:Jf5 Tryz.prog 59=some 3:=by kernel_rfl
theorem by59:Kq4 Tryz.prog 59=some 24:=by kernel_rfl
theorem ag59:Jd2 Tryz.prog 59=some true:=by kernel_rfl
theorem eg59:Tryz.prog.eqGuardType Tryz.prog.depth 59=false:=by kernel_rfl
theorem si59:Tryz.prog.stoodInHeld 59=false:=by kernel_rfl
theorem zr59:Jc0 Tryz.prog 59=some (.agg #[(.int .i64 0),(.int .i64 0),(.int .i64 0)]):=by kernel_rfl
theorem eg60:Tryz.prog.eqGuardType Tryz.prog.depth 60=false:=by kernel_rfl
theorem si60:Tryz.prog.stoodInHeld 60=false:=by kernel_rfl
theorem sz61:Jf5 Tryz.prog 61=some 15:=by kernel_rfl
theorem ag61:Jd2 Tryz.prog 61=some true:=by kernel_rfl
theorem eg61:Tryz.prog.eqGuardType Tryz.prog.depth 61=false:=by kernel_rfl
theorem si61:Tryz.prog.stoodInHeld 61=false:=by kernel_rfl
theorem zr61:Jc0 Tryz.prog 61=some (.agg #[(.int .i64 0),(.int .i64 0),(.int .i64 0),(.int .i64 0),(.int .i64 0),(.int .i64 0),(.int .i64 0),(.int .i64 0),(.int .i64 0),(.int .i64 0),(.int .i64 0),(.int .i64 0),(.int .i64 0),(.int .i64 0),(.int .i64 0)]):=by kernel_rfl
theorem sz68:Jf5 Tryz.prog 68=some 1:=by kernel_rfl
theorem ag68:Jd2 Tryz.prog 68=some false:=by kernel_rfl
theorem sz73:Jf5 Tryz.prog 73=some 9:=by kernel_rfl
theorem eg73:Tryz.prog.eqGuardType Tryz.prog.depth 73=false:=by kernel_rfl
theorem eg74:Tryz.prog.eqGuardType Tryz.prog.depth 74=false:=by kernel_rfl
theorem si74:Tryz.prog.stoodInHeld 74=false:=by kernel_rfl
theorem sz75:Jf5 Tryz.prog 75=some 12:=by kernel_rfl
theorem ag75:Jd2 Tryz.prog 75=some true:=by kernel_rfl
theorem eg75:Tryz.prog.eqGuardType Tryz.prog.depth 75=false:=by kernel_rfl
theorem si75:Tryz.prog.stoodInHeld 75=false:=by kernel_rfl
theorem zr75:Jc0 Tryz.prog 75=some (.agg #[(.int .i64 0),(.int .i64 0),(.int .i64 0),(.int .i64 0),(.int .i64 0),(.int .i64 0),(.int .i64 0),(.int .i64 0),(.int .i64 0),(.int .i64 0),(.int .i64 0),(.int .i64 0)]):=by kernel_rfl
theorem eg77:Tryz.prog.eqGuardType Tryz.prog.depth 77=false:=by kernel_rfl
theorem si77:Tryz.prog.stoodInHeld 77=false:=by kernel_rfl
theorem sz78:Jf5 Tryz.prog 78=some 24:=by kernel_rfl
theorem by78:Kq4 Tryz.prog 78=some 192:=by kernel_rfl
theorem ag78:Jd2 Tryz.prog 78=some true:=by kernel_rfl
theorem eg78:Tryz.prog.eqGuardType Tryz.prog.depth 78=false:=by kernel_rfl
theorem si78:Tryz.prog.stoodInHeld 78=false:=by kernel_rfl
theorem zr78:Jc0 Tryz.prog 78=some (.agg #[(.int .i64 0),(.int .i64 0),(.int .i64 0),(.int .i64 0),(.int .i64 0),(.int .i64 0),(.int .i64 0),(.int .i64 0),(.int .i64 0),(.int .i64 0),(.int .i64 0),(.int .i64 0),(.int .i64 0),(.int .i64 0),(.int .i64 0),(.int .i64 0),(.int .i64 0),(.int .i64 0),(.int .i64 0),(.int .i64 0),(.int .i64 0),(.int .i64 0),(.int .i64 0),(.int .i64 0)]):=by kernel_rfl
theorem sz82:Jf5 Tryz.prog 82=some 9:=by kernel_rfl
theorem ag82:Jd2 Tryz.prog 82=some true:=by kernel_rfl
theorem eg82:Tryz.prog.eqGuardType Tryz.prog.depth 82=false:=by kernel_rfl
theorem eg83:Tryz.prog.eqGuardType Tryz.prog.depth 83=false:=by kernel_rfl
theorem si83:Tryz.prog.stoodInHeld 83=false:=by kernel_rfl
theorem sz84:Jf5 Tryz.prog 84=some 12:=by kernel_rfl
theorem by84:Kq4 Tryz.prog 84=some 96:=by kernel_rfl
theorem ag84:Jd2 Tryz.prog 84=some true:=by kernel_rfl
theorem eg84:Tryz.prog.eqGuardType Tryz.prog.depth 84=false:=by kernel_rfl
theorem si84:Tryz.prog.stoodInHeld 84=false:=by kernel_rfl
theorem zr84:Jc0 Tryz.prog 84=some (.agg #[(.int .i64 0),(.int .i64 0),(.int .i64 0),(.int .i64 0),(.int .i64 0),(.int .i64 0),(.int .i64 0),(.int .i64 0),(.int .i64 0),(.int .i64 0),(.int .i64 0),(.int .i64 0)]):=by kernel_rfl
theorem eg86:Tryz.prog.eqGuardType Tryz.prog.depth 86=false:=by kernel_rfl
theorem si86:Tryz.prog.stoodInHeld 86=false:=by kernel_rfl
theorem sz87:Jf5 Tryz.prog 87=some 15:=by kernel_rfl
theorem ag87:Jd2 Tryz.prog 87=some true:=by kernel_rfl
theorem eg87:Tryz.prog.eqGuardType Tryz.prog.depth 87=false:=by kernel_rfl
theorem si87:Tryz.prog.stoodInHeld 87=false:=by kernel_rfl
theorem zr87:Jc0 Tryz.prog 87=some (.agg #[(.int .i64 0),(.int .i64 0),(.int .i64 0),(.int .i64 0),(.int .i64 0),(.int .i64 0),(.int .i64 0),(.int .i64 0),(.int .i64 0),(.int .i64 0),(.int .i64 0),(.int .i64 0),(.int .i64 0),(.int .i64 0),(.int .i64 0)]):=by kernel_rfl
theorem eg89:Tryz.prog.eqGuardType Tryz.prog.depth 89=false:=by kernel_rfl
theorem si89:Tryz.prog.stoodInHeld 89=false:=by kernel_rfl
theorem sz90:Jf5 Tryz.prog 90=some 15:=by kernel_rfl
theorem ag90:Jd2 Tryz.prog 90=some true:=by kernel_rfl
theorem eg90:Tryz.prog.eqGuardType Tryz.prog.depth 90=false:=by kernel_rfl
theorem si90:Tryz.prog.stoodInHeld 90=false:=by kernel_rfl
theorem zr90:Jc0 Tryz.prog 90=some (.agg #[(.int .i64 0),(.int .i64 0),(.int .i64 0),(.int .i64 0),(.int .i64 0),(.int .i64 0),(.int .i64 0),(.int .i64 0),(.int .i64 0),(.int .i64 0),(.int .i64 0),(.int .i64 0),(.int .i64 0),(.int .i64 0),(.int .i64 0)]):=by kernel_rfl
theorem eg94:Tryz.prog.eqGuardType Tryz.prog.depth 94=false:=by kernel_rfl
theorem si94:Tryz.prog.stoodInHeld 94=false:=by kernel_rfl
theorem sz95:Jf5 Tryz.prog 95=some 2:=by kernel_rfl
theorem ag95:Jd2 Tryz.prog 95=some true:=by kernel_rfl
theorem eg95:Tryz.prog.eqGuardType Tryz.prog.depth 95=false:=by kernel_rfl
theorem si95:Tryz.prog.stoodInHeld 95=false:=by kernel_rfl
theorem zr95:Jc0 Tryz.prog 95=some (.agg #[(.int .i64 0),(.int .i64 0)]):=by kernel_rfl
theorem sz96:Jf5 Tryz.prog 96=some 1:=by kernel_rfl
theorem ag96:Jd2 Tryz.prog 96=some false:=by kernel_rfl
theorem eg97:Tryz.prog.eqGuardType Tryz.prog.depth 97=false:=by kernel_rfl
theorem si97:Tryz.prog.stoodInHeld 97=false:=by kernel_rfl
theorem sz98:Jf5 Tryz.prog 98=some 3:=by kernel_rfl
theorem ag98:Jd2 Tryz.prog 98=some true:=by kernel_rfl
theorem eg98:Tryz.prog.eqGuardType Tryz.prog.depth 98=false:=by kernel_rfl
theorem si98:Tryz.prog.stoodInHeld 98=false:=by kernel_rfl
theorem zr98:Jc0 Tryz.prog 98=some (.agg #[(.int .i64 0),(.int .i64 0),(.slice none 0 0)]):=by kernel_rfl
theorem sz99:Jf5 Tryz.prog 99=some 1:=by kernel_rfl
theorem ag99:Jd2 Tryz.prog 99=some false:=by kernel_rfl
theorem sz100:Jf5 Tryz.prog 100=some 1:=by kernel_rfl
theorem ag100:Jd2 Tryz.prog 100=some false:=by kernel_rfl
theorem eg101:Tryz.prog.eqGuardType Tryz.prog.depth 101=false:=by kernel_rfl
theorem si101:Tryz.prog.stoodInHeld 101=false:=by kernel_rfl
theorem sz102:Jf5 Tryz.prog 102=some 8:=by kernel_rfl
theorem ag102:Jd2 Tryz.prog 102=some true:=by kernel_rfl
theorem eg102:Tryz.prog.eqGuardType Tryz.prog.depth 102=false:=by kernel_rfl
theorem si102:Tryz.prog.stoodInHeld 102=false:=by kernel_rfl
theorem zr102:Jc0 Tryz.prog 102=some (.agg #[(.int .i64 0),(.int .i64 0),(.slice none 0 0),(.slice none 0 0),(.slice none 0 0),(.slice none 0 0),(.slice none 0 0),(.slice none 0 0)]):=by kernel_rfl
theorem sz106:Jf5 Tryz.prog 106=some 1:=by kernel_rfl
theorem ag106:Jd2 Tryz.prog 106=some false:=by kernel_rfl
theorem eg107:Tryz.prog.eqGuardType Tryz.prog.depth 107=false:=by kernel_rfl
theorem si107:Tryz.prog.stoodInHeld 107=false:=by kernel_rfl
theorem sz108:Jf5 Tryz.prog 108=some 3:=by kernel_rfl
theorem ag108:Jd2 Tryz.prog 108=some true:=by kernel_rfl
theorem eg108:Tryz.prog.eqGuardType Tryz.prog.depth 108=false:=by kernel_rfl
theorem si108:Tryz.prog.stoodInHeld 108=false:=by kernel_rfl
theorem zr108:Jc0 Tryz.prog 108=some (.agg #[(.int .i64 0),(.int .i64 0),(.slice none 0 0)]):=by kernel_rfl
theorem sz109:Jf5 Tryz.prog 109=some 1:=by kernel_rfl
theorem ag109:Jd2 Tryz.prog 109=some false:=by kernel_rfl
theorem sz110:Jf5 Tryz.prog 110=some 1:=by kernel_rfl
theorem ag110:Jd2 Tryz.prog 110=some false:=by kernel_rfl
theorem eg111:Tryz.prog.eqGuardType Tryz.prog.depth 111=false:=by kernel_rfl
theorem si111:Tryz.prog.stoodInHeld 111=false:=by kernel_rfl
theorem sz112:Jf5 Tryz.prog 112=some 8:=by kernel_rfl
theorem ag112:Jd2 Tryz.prog 112=some true:=by kernel_rfl
theorem eg112:Tryz.prog.eqGuardType Tryz.prog.depth 112=false:=by kernel_rfl
theorem si112:Tryz.prog.stoodInHeld 112=false:=by kernel_rfl
theorem zr112:Jc0 Tryz.prog 112=some (.agg #[(.int .i64 0),(.int .i64 0),(.slice none 0 0),(.slice none 0 0),(.slice none 0 0),(.slice none 0 0),(.slice none 0 0),(.slice none 0 0)]):=by kernel_rfl
theorem sz117:Jf5 Tryz.prog 117=some 1:=by kernel_rfl
theorem ag117:Jd2 Tryz.prog 117=some false:=by kernel_rfl
theorem eg118:Tryz.prog.eqGuardType Tryz.prog.depth 118=false:=by kernel_rfl
theorem si118:Tryz.prog.stoodInHeld 118=false:=by kernel_rfl
theorem sz119:Jf5 Tryz.prog 119=some 2:=by kernel_rfl
theorem by119:Kq4 Tryz.prog 119=some 32:=by kernel_rfl
theorem ag119:Jd2 Tryz.prog 119=some true:=by kernel_rfl
theorem eg119:Tryz.prog.eqGuardType Tryz.prog.depth 119=false:=by kernel_rfl
theorem si119:Tryz.prog.stoodInHeld 119=false:=by kernel_rfl
theorem zr119:Jc0 Tryz.prog 119=some (.agg #[(.int .i64 0),(.slice none 0 0)]):=by kernel_rfl
theorem sz123:Jf5 Tryz.prog 123=some 1:=by kernel_rfl
theorem ag123:Jd2 Tryz.prog 123=some false:=by kernel_rfl
theorem eg124:Tryz.prog.eqGuardType Tryz.prog.depth 124=false:=by kernel_rfl
theorem si124:Tryz.prog.stoodInHeld 124=false:=by kernel_rfl
theorem sz125:Jf5 Tryz.prog 125=some 2:=by kernel_rfl
theorem ag125:Jd2 Tryz.prog 125=some true:=by kernel_rfl
theorem eg125:Tryz.prog.eqGuardType Tryz.prog.depth 125=false:=by kernel_rfl
theorem si125:Tryz.prog.stoodInHeld 125=false:=by kernel_rfl
theorem zr125:Jc0 Tryz.prog 125=some (.agg #[(.slice none 0 0),(.slice none 0 0)]):=by kernel_rfl
theorem sz126:Jf5 Tryz.prog 126=some 1:=by kernel_rfl
theorem ag126:Jd2 Tryz.prog 126=some false:=by kernel_rfl
theorem eg127:Tryz.prog.eqGuardType Tryz.prog.depth 127=false:=by kernel_rfl
theorem si127:Tryz.prog.stoodInHeld 127=false:=by kernel_rfl
theorem sz128:Jf5 Tryz.prog 128=some 3:=by kernel_rfl
theorem ag128:Jd2 Tryz.prog 128=some true:=by kernel_rfl
theorem eg128:Tryz.prog.eqGuardType Tryz.prog.depth 128=false:=by kernel_rfl
theorem si128:Tryz.prog.stoodInHeld 128=false:=by kernel_rfl
theorem zr128:Jc0 Tryz.prog 128=some (.agg #[(.slice none 0 0),(.slice none 0 0),(.slice none 0 0)]):=by kernel_rfl
theorem eg134:Tryz.prog.eqGuardType Tryz.prog.depth 134=false:=by kernel_rfl
theorem si134:Tryz.prog.stoodInHeld 134=false:=by kernel_rfl
theorem eg135:Tryz.prog.eqGuardType Tryz.prog.depth 135=false:=by kernel_rfl
theorem si135:Tryz.prog.stoodInHeld 135=false:=by kernel_rfl
theorem zr135:Jc0 Tryz.prog 135=some (.agg #[(.int .i64 0),(.int .i64 0),(.int .i64 0),(.int .i64 0),(.int .i64 0),(.int .i64 0),(.int .u64 0),(.int .i64 0),(.int .i64 0),(.int .i64 0),(.int .i64 0),(.int .i64 0),(.int .i64 0),(.slice none 0 0),(.slice none 0 0),(.slice none 0 0),(.slice none 0 0),(.int .i64 0),(.slice none 0 0),(.slice none 0 0),(.slice none 0 0),(.slice none 0 0),(.int .i64 0),(.int .i64 0),(.int .i64 0),(.int .i64 0),(.int .i64 0),(.int .i64 0),(.int .i64 0),(.int .i64 0),(.int .i64 0),(.int .i64 0),(.int .i64 0),(.int .i64 0),(.int .i64 0),(.int .i64 0),(.int .i64 0),(.int .i64 0),(.int .i64 0),(.int .i64 0),(.int .i64 0),(.int .i64 0),(.int .i64 0),(.int .i64 0),(.int .i64 0),(.int .i64 0),(.int .i64 0),(.int .i64 0),(.int .i64 0),(.int .i64 0),(.int .i64 0),(.int .i64 0)]):=by kernel_rfl
theorem eg137:Tryz.prog.eqGuardType Tryz.prog.depth 137=false:=by kernel_rfl
theorem si137:Tryz.prog.stoodInHeld 137=false:=by kernel_rfl
theorem sz138:Jf5 Tryz.prog 138=some 5:=by kernel_rfl
theorem ag138:Jd2 Tryz.prog 138=some true:=by kernel_rfl
theorem eg138:Tryz.prog.eqGuardType Tryz.prog.depth 138=false:=by kernel_rfl
theorem si138:Tryz.prog.stoodInHeld 138=false:=by kernel_rfl
theorem zr138:Jc0 Tryz.prog 138=some (.agg #[(.int .i64 0),(.int .i64 0),(.int .i64 0),(.int .i64 0),(.int .i64 0)]):=by kernel_rfl
theorem eg139:Tryz.prog.eqGuardType Tryz.prog.depth 139=false:=by kernel_rfl
theorem si139:Tryz.prog.stoodInHeld 139=false:=by kernel_rfl
theorem sz140:Jf5 Tryz.prog 140=some 5:=by kernel_rfl
theorem by140:Kq4 Tryz.prog 140=some 40:=by kernel_rfl
theorem ag140:Jd2 Tryz.prog 140=some true:=by kernel_rfl
theorem eg140:Tryz.prog.eqGuardType Tryz.prog.depth 140=false:=by kernel_rfl
theorem si140:Tryz.prog.stoodInHeld 140=false:=by kernel_rfl
theorem zr140:Jc0 Tryz.prog 140=some (.agg #[(.int .i64 0),(.int .i64 0),(.int .i64 0),(.int .i64 0),(.int .i64 0)]):=by kernel_rfl
theorem sz141:Jf5 Tryz.prog 141=some 1:=by kernel_rfl
theorem ag141:Jd2 Tryz.prog 141=some false:=by kernel_rfl
theorem eg142:Tryz.prog.eqGuardType Tryz.prog.depth 142=false:=by kernel_rfl
theorem si142:Tryz.prog.stoodInHeld 142=false:=by kernel_rfl
theorem sz143:Jf5 Tryz.prog 143=some 2:=by kernel_rfl
theorem ag143:Jd2 Tryz.prog 143=some true:=by kernel_rfl
theorem eg143:Tryz.prog.eqGuardType Tryz.prog.depth 143=false:=by kernel_rfl
theorem si143:Tryz.prog.stoodInHeld 143=false:=by kernel_rfl
theorem zr143:Jc0 Tryz.prog 143=some (.agg #[(.int .i64 0),(.slice none 0 0)]):=by kernel_rfl
theorem eg145:Tryz.prog.eqGuardType Tryz.prog.depth 145=false:=by kernel_rfl
theorem si145:Tryz.prog.stoodInHeld 145=false:=by kernel_rfl
theorem sz146:Jf5 Tryz.prog 146=some 4:=by kernel_rfl
theorem ag146:Jd2 Tryz.prog 146=some true:=by kernel_rfl
theorem eg146:Tryz.prog.eqGuardType Tryz.prog.depth 146=false:=by kernel_rfl
theorem si146:Tryz.prog.stoodInHeld 146=false:=by kernel_rfl
theorem zr146:Jc0 Tryz.prog 146=some (.agg #[(.int .i64 0),(.int .i64 0),(.int .i64 0),(.int .i64 0)]):=by kernel_rfl
theorem eg147:Tryz.prog.eqGuardType Tryz.prog.depth 147=false:=by kernel_rfl
theorem si147:Tryz.prog.stoodInHeld 147=false:=by kernel_rfl
theorem sz148:Jf5 Tryz.prog 148=some 4:=by kernel_rfl
theorem by148:Kq4 Tryz.prog 148=some 32:=by kernel_rfl
theorem ag148:Jd2 Tryz.prog 148=some true:=by kernel_rfl
theorem eg148:Tryz.prog.eqGuardType Tryz.prog.depth 148=false:=by kernel_rfl
theorem si148:Tryz.prog.stoodInHeld 148=false:=by kernel_rfl
theorem zr148:Jc0 Tryz.prog 148=some (.agg #[(.int .i64 0),(.int .i64 0),(.int .i64 0),(.int .i64 0)]):=by kernel_rfl
theorem eg149:Tryz.prog.eqGuardType Tryz.prog.depth 149=false:=by kernel_rfl
theorem si149:Tryz.prog.stoodInHeld 149=false:=by kernel_rfl
theorem sz150:Jf5 Tryz.prog 150=some 13:=by kernel_rfl
theorem ag150:Jd2 Tryz.prog 150=some true:=by kernel_rfl
theorem eg150:Tryz.prog.eqGuardType Tryz.prog.depth 150=false:=by kernel_rfl
theorem si150:Tryz.prog.stoodInHeld 150=false:=by kernel_rfl
theorem zr150:Jc0 Tryz.prog 150=some (.agg #[(.int .i64 0),(.int .i64 0),(.int .i64 0),(.int .i64 0),(.int .i64 0),(.int .i64 0),(.int .i64 0),(.int .i64 0),(.int .i64 0),(.int .i64 0),(.int .i64 0),(.int .i64 0),(.int .i64 0)]):=by kernel_rfl
theorem eg151:Tryz.prog.eqGuardType Tryz.prog.depth 151=false:=by kernel_rfl
theorem si151:Tryz.prog.stoodInHeld 151=false:=by kernel_rfl
theorem sz152:Jf5 Tryz.prog 152=some 2:=by kernel_rfl
theorem ag152:Jd2 Tryz.prog 152=some true:=by kernel_rfl
theorem eg152:Tryz.prog.eqGuardType Tryz.prog.depth 152=false:=by kernel_rfl
theorem si152:Tryz.prog.stoodInHeld 152=false:=by kernel_rfl
theorem zr152:Jc0 Tryz.prog 152=some (.agg #[(.int .i64 0),(.int .i64 0)]):=by kernel_rfl
theorem eg154:Tryz.prog.eqGuardType Tryz.prog.depth 154=false:=by kernel_rfl
theorem si154:Tryz.prog.stoodInHeld 154=false:=by kernel_rfl
theorem sz155:Jf5 Tryz.prog 155=some 13:=by kernel_rfl
theorem by155:Kq4 Tryz.prog 155=some 104:=by kernel_rfl
theorem ag155:Jd2 Tryz.prog 155=some true:=by kernel_rfl
theorem eg155:Tryz.prog.eqGuardType Tryz.prog.depth 155=false:=by kernel_rfl
theorem si155:Tryz.prog.stoodInHeld 155=false:=by kernel_rfl
theorem zr155:Jc0 Tryz.prog 155=some (.agg #[(.int .i64 0),(.int .i64 0),(.int .i64 0),(.int .i64 0),(.int .i64 0),(.int .i64 0),(.int .i64 0),(.int .i64 0),(.int .i64 0),(.int .i64 0),(.int .i64 0),(.int .i64 0),(.int .i64 0)]):=by kernel_rfl
theorem eg158:Tryz.prog.eqGuardType Tryz.prog.depth 158=false:=by kernel_rfl
theorem si158:Tryz.prog.stoodInHeld 158=false:=by kernel_rfl
theorem sz159:Jf5 Tryz.prog 159=some 4:=by kernel_rfl
theorem ag159:Jd2 Tryz.prog 159=some true:=by kernel_rfl
theorem eg159:Tryz.prog.eqGuardType Tryz.prog.depth 159=false:=by kernel_rfl
theorem si159:Tryz.prog.stoodInHeld 159=false:=by kernel_rfl
theorem zr159:Jc0 Tryz.prog 159=some (.agg #[(.int .u64 0),(.int .i64 0),(.int .i64 0),(.int .i64 0)]):=by kernel_rfl
theorem eg160:Tryz.prog.eqGuardType Tryz.prog.depth 160=false:=by kernel_rfl
theorem si160:Tryz.prog.stoodInHeld 160=false:=by kernel_rfl
theorem sz161:Jf5 Tryz.prog 161=some 7:=by kernel_rfl
theorem ag161:Jd2 Tryz.prog 161=some true:=by kernel_rfl
theorem eg161:Tryz.prog.eqGuardType Tryz.prog.depth 161=false:=by kernel_rfl
theorem si161:Tryz.prog.stoodInHeld 161=false:=by kernel_rfl
theorem zr161:Jc0 Tryz.prog 161=some (.agg #[(.int .i64 0),(.int .i64 0),(.int .i64 0),(.int .i64 0),(.int .i64 0),(.int .i64 0),(.int .i64 0)]):=by kernel_rfl
theorem eg164:Tryz.prog.eqGuardType Tryz.prog.depth 164=false:=by kernel_rfl
theorem si164:Tryz.prog.stoodInHeld 164=false:=by kernel_rfl
theorem sz165:Jf5 Tryz.prog 165=some 8:=by kernel_rfl
theorem ag165:Jd2 Tryz.prog 165=some true:=by kernel_rfl
theorem eg165:Tryz.prog.eqGuardType Tryz.prog.depth 165=false:=by kernel_rfl
theorem si165:Tryz.prog.stoodInHeld 165=false:=by kernel_rfl
theorem zr165:Jc0 Tryz.prog 165=some (.agg #[(.int .i64 0),(.int .i64 0),(.int .i64 0),(.int .i64 0),(.int .i64 0),(.int .i64 0),(.int .i64 0),(.int .i64 0)]):=by kernel_rfl
theorem eg171:Tryz.prog.eqGuardType Tryz.prog.depth 171=false:=by kernel_rfl
theorem si171:Tryz.prog.stoodInHeld 171=false:=by kernel_rfl
theorem sz172:Jf5 Tryz.prog 172=some 8:=by kernel_rfl
theorem ag172:Jd2 Tryz.prog 172=some true:=by kernel_rfl
theorem eg172:Tryz.prog.eqGuardType Tryz.prog.depth 172=false:=by kernel_rfl
theorem si172:Tryz.prog.stoodInHeld 172=false:=by kernel_rfl
theorem zr172:Jc0 Tryz.prog 172=some (.agg #[(.int .i64 0),(.int .i64 0),(.int .i64 0),(.int .i64 0),(.int .i64 0),(.int .i64 0),(.bool false),(.bool false)]):=by kernel_rfl
theorem sz176:Jf5 Tryz.prog 176=some 4:=by kernel_rfl
theorem ag176:Jd2 Tryz.prog 176=some true:=by kernel_rfl
theorem eg176:Tryz.prog.eqGuardType Tryz.prog.depth 176=false:=by kernel_rfl
theorem si176:Tryz.prog.stoodInHeld 176=false:=by kernel_rfl
theorem zr176:Jc0 Tryz.prog 176=some (.agg #[(.int .u64 0),(.int .i64 0),(.int .i64 0),(.int .i64 0)]):=by kernel_rfl
theorem eg179:Tryz.prog.eqGuardType Tryz.prog.depth 179=false:=by kernel_rfl
theorem si179:Tryz.prog.stoodInHeld 179=false:=by kernel_rfl
theorem sz180:Jf5 Tryz.prog 180=some 7:=by kernel_rfl
theorem ag180:Jd2 Tryz.prog 180=some true:=by kernel_rfl
theorem eg180:Tryz.prog.eqGuardType Tryz.prog.depth 180=false:=by kernel_rfl
theorem si180:Tryz.prog.stoodInHeld 180=false:=by kernel_rfl
theorem zr180:Jc0 Tryz.prog 180=some (.agg #[(.int .i64 0),(.int .i64 0),(.int .i64 0),(.int .i64 0),(.int .i64 0),(.int .i64 0),(.int .i64 0)]):=by kernel_rfl
theorem eg182:Tryz.prog.eqGuardType Tryz.prog.depth 182=false:=by kernel_rfl
theorem si182:Tryz.prog.stoodInHeld 182=false:=by kernel_rfl
theorem sz183:Jf5 Tryz.prog 183=some 8:=by kernel_rfl
theorem ag183:Jd2 Tryz.prog 183=some true:=by kernel_rfl
theorem eg183:Tryz.prog.eqGuardType Tryz.prog.depth 183=false:=by kernel_rfl
theorem si183:Tryz.prog.stoodInHeld 183=false:=by kernel_rfl
theorem zr183:Jc0 Tryz.prog 183=some (.agg #[(.int .i64 0),(.int .i64 0),(.int .i64 0),(.int .i64 0),(.int .i64 0),(.int .i64 0),(.int .i64 0),(.int .i64 0)]):=by kernel_rfl
theorem eg188:Tryz.prog.eqGuardType Tryz.prog.depth 188=false:=by kernel_rfl
theorem si188:Tryz.prog.stoodInHeld 188=false:=by kernel_rfl
theorem sz189:Jf5 Tryz.prog 189=some 8:=by kernel_rfl
theorem ag189:Jd2 Tryz.prog 189=some true:=by kernel_rfl
theorem eg189:Tryz.prog.eqGuardType Tryz.prog.depth 189=false:=by kernel_rfl
theorem si189:Tryz.prog.stoodInHeld 189=false:=by kernel_rfl
theorem zr189:Jc0 Tryz.prog 189=some (.agg #[(.int .i64 0),(.int .i64 0),(.int .i64 0),(.int .i64 0),(.int .i64 0),(.int .i64 0),(.bool false),(.bool false)]):=by kernel_rfl
theorem eg203:Tryz.prog.eqGuardType Tryz.prog.depth 203=false:=by kernel_rfl
theorem si203:Tryz.prog.stoodInHeld 203=false:=by kernel_rfl
theorem sz204:Jf5 Tryz.prog 204=some 24:=by kernel_rfl
theorem by204:Kq4 Tryz.prog 204=some 192:=by kernel_rfl
theorem ag204:Jd2 Tryz.prog 204=some true:=by kernel_rfl
theorem eg204:Tryz.prog.eqGuardType Tryz.prog.depth 204=false:=by kernel_rfl
theorem si204:Tryz.prog.stoodInHeld 204=false:=by kernel_rfl
theorem zr204:Jc0 Tryz.prog 204=some (.agg #[(.int .i64 0),(.int .i64 0),(.int .i64 0),(.int .i64 0),(.int .i64 0),(.int .i64 0),(.int .i64 0),(.int .i64 0),(.int .i64 0),(.int .i64 0),(.int .i64 0),(.int .i64 0),(.int .i64 0),(.int .i64 0),(.int .i64 0),(.int .i64 0),(.int .i64 0),(.int .i64 0),(.int .i64 0),(.int .i64 0),(.int .i64 0),(.int .i64 0),(.int .i64 0),(.int .i64 0)]):=by kernel_rfl
theorem sz213:Jf5 Tryz.prog 213=some 1:=by kernel_rfl
theorem ag213:Jd2 Tryz.prog 213=some false:=by kernel_rfl
theorem eg215:Tryz.prog.eqGuardType Tryz.prog.depth 215=false:=by kernel_rfl
theorem si215:Tryz.prog.stoodInHeld 215=false:=by kernel_rfl
theorem eg216:Tryz.prog.eqGuardType Tryz.prog.depth 216=false:=by kernel_rfl
theorem si216:Tryz.prog.stoodInHeld 216=false:=by kernel_rfl
theorem zr216:Jc0 Tryz.prog 216=some (.agg #[(.int .i64 0),(.int .i64 0),(.int .i64 0),(.int .i64 0),(.int .i64 0),(.int .i64 0),(.int .i64 0),(.int .i64 0),(.int .i64 0),(.int .i64 0),(.int .i64 0),(.int .i64 0),(.int .i64 0),(.int .i64 0),(.int .i64 0),(.slice none 0 0)]):=by kernel_rfl
theorem eg222:Tryz.prog.eqGuardType Tryz.prog.depth 222=false:=by kernel_rfl
theorem si222:Tryz.prog.stoodInHeld 222=false:=by kernel_rfl
theorem sz223:Jf5 Tryz.prog 223=some 4:=by kernel_rfl
theorem by223:Kq4 Tryz.prog 223=some 32:=by kernel_rfl
theorem ag223:Jd2 Tryz.prog 223=some true:=by kernel_rfl
theorem eg223:Tryz.prog.eqGuardType Tryz.prog.depth 223=false:=by kernel_rfl
theorem si223:Tryz.prog.stoodInHeld 223=false:=by kernel_rfl
theorem zr223:Jc0 Tryz.prog 223=some (.agg #[(.int .i64 0),(.int .i64 0),(.int .i64 0),(.int .i64 0)]):=by kernel_rfl
theorem sz224:Jf5 Tryz.prog 224=some 1:=by kernel_rfl
theorem ag224:Jd2 Tryz.prog 224=some false:=by kernel_rfl
theorem sz225:Jf5 Tryz.prog 225=some 4:=by kernel_rfl
theorem ag225:Jd2 Tryz.prog 225=some true:=by kernel_rfl
theorem eg225:Tryz.prog.eqGuardType Tryz.prog.depth 225=false:=by kernel_rfl
theorem si225:Tryz.prog.stoodInHeld 225=false:=by kernel_rfl
theorem zr225:Jc0 Tryz.prog 225=some (.agg #[(.int .i64 0),(.int .i64 0),(.int .i64 0),.nilFunc]):=by kernel_rfl
theorem sz230:Jf5 Tryz.prog 230=some 1:=by kernel_rfl
theorem ag230:Jd2 Tryz.prog 230=some false:=by kernel_rfl
theorem eg231:Tryz.prog.eqGuardType Tryz.prog.depth 231=false:=by kernel_rfl
theorem si231:Tryz.prog.stoodInHeld 231=false:=by kernel_rfl
theorem sz232:Jf5 Tryz.prog 232=some 6:=by kernel_rfl
theorem ag232:Jd2 Tryz.prog 232=some true:=by kernel_rfl
theorem eg232:Tryz.prog.eqGuardType Tryz.prog.depth 232=false:=by kernel_rfl
theorem si232:Tryz.prog.stoodInHeld 232=false:=by kernel_rfl
theorem zr232:Jc0 Tryz.prog 232=some (.agg #[(.int .i64 0),(.int .i64 0),(.int .i64 0),(.int .i64 0),(.int .i64 0),(.int .i64 0)]):=by kernel_rfl
theorem eg233:Tryz.prog.eqGuardType Tryz.prog.depth 233=false:=by kernel_rfl
theorem si233:Tryz.prog.stoodInHeld 233=false:=by kernel_rfl
theorem sz234:Jf5 Tryz.prog 234=some 12:=by kernel_rfl
theorem by234:Kq4 Tryz.prog 234=some 96:=by kernel_rfl
theorem ag234:Jd2 Tryz.prog 234=some true:=by kernel_rfl
theorem eg234:Tryz.prog.eqGuardType Tryz.prog.depth 234=false:=by kernel_rfl
theorem si234:Tryz.prog.stoodInHeld 234=false:=by kernel_rfl
theorem zr234:Jc0 Tryz.prog 234=some (.agg #[(.int .i64 0),(.int .i64 0),(.int .i64 0),(.int .i64 0),(.int .i64 0),(.int .i64 0),(.int .i64 0),(.int .i64 0),(.int .i64 0),(.int .i64 0),(.int .i64 0),(.int .i64 0)]):=by kernel_rfl
theorem eg250:Tryz.prog.eqGuardType Tryz.prog.depth 250=false:=by kernel_rfl
theorem si250:Tryz.prog.stoodInHeld 250=false:=by kernel_rfl
theorem eg251:Tryz.prog.eqGuardType Tryz.prog.depth 251=false:=by kernel_rfl
theorem si251:Tryz.prog.stoodInHeld 251=false:=by kernel_rfl
theorem zr251:Jc0 Tryz.prog 251=some (.agg #[(.slice none 0 0),(.int .i64 0)]):=by kernel_rfl
theorem eg254:Tryz.prog.eqGuardType Tryz.prog.depth 254=false:=by kernel_rfl
theorem si254:Tryz.prog.stoodInHeld 254=false:=by kernel_rfl
theorem sz255:Jf5 Tryz.prog 255=some 16:=by kernel_rfl
theorem by255:Kq4 Tryz.prog 255=some 128:=by kernel_rfl
theorem ag255:Jd2 Tryz.prog 255=some true:=by kernel_rfl
theorem eg255:Tryz.prog.eqGuardType Tryz.prog.depth 255=false:=by kernel_rfl
theorem si255:Tryz.prog.stoodInHeld 255=false:=by kernel_rfl
theorem zr255:Jc0 Tryz.prog 255=some (.agg #[(.int .i64 0),(.int .i64 0),(.int .i64 0),(.int .i64 0),(.int .i64 0),(.int .i64 0),(.int .i64 0),(.int .i64 0),(.int .i64 0),(.int .i64 0),(.int .i64 0),(.int .i64 0),(.int .i64 0),(.int .i64 0),(.int .i64 0),(.int .i64 0)]):=by kernel_rfl
theorem eg284:Tryz.prog.eqGuardType Tryz.prog.depth 284=false:=by kernel_rfl
theorem si284:Tryz.prog.stoodInHeld 284=false:=by kernel_rfl
theorem sz285:Jf5 Tryz.prog 285=some 4:=by kernel_rfl
theorem ag285:Jd2 Tryz.prog 285=some true:=by kernel_rfl
theorem eg285:Tryz.prog.eqGuardType Tryz.prog.depth 285=false:=by kernel_rfl
theorem si285:Tryz.prog.stoodInHeld 285=false:=by kernel_rfl
theorem zr285:Jc0 Tryz.prog 285=some (.agg #[(.int .i64 0),(.int .i64 0),(.int .i64 0),(.int .i64 0)]):=by kernel_rfl
theorem eg287:Tryz.prog.eqGuardType Tryz.prog.depth 287=false:=by kernel_rfl
theorem si287:Tryz.prog.stoodInHeld 287=false:=by kernel_rfl
theorem sz288:Jf5 Tryz.prog 288=some 12:=by kernel_rfl
theorem ag288:Jd2 Tryz.prog 288=some true:=by kernel_rfl
theorem eg288:Tryz.prog.eqGuardType Tryz.prog.depth 288=false:=by kernel_rfl
theorem si288:Tryz.prog.stoodInHeld 288=false:=by kernel_rfl
theorem zr288:Jc0 Tryz.prog 288=some (.agg #[(.int .i64 0),(.int .i64 0),(.int .i64 0),(.int .i64 0),(.int .i64 0),(.int .i64 0),(.int .i64 0),(.int .i64 0),(.int .i64 0),(.int .i64 0),(.int .i64 0),(.int .i64 0)]):=by kernel_rfl
theorem eg289:Tryz.prog.eqGuardType Tryz.prog.depth 289=false:=by kernel_rfl
theorem si289:Tryz.prog.stoodInHeld 289=false:=by kernel_rfl
theorem sz290:Jf5 Tryz.prog 290=some 13:=by kernel_rfl
theorem ag290:Jd2 Tryz.prog 290=some true:=by kernel_rfl
theorem eg290:Tryz.prog.eqGuardType Tryz.prog.depth 290=false:=by kernel_rfl
theorem si290:Tryz.prog.stoodInHeld 290=false:=by kernel_rfl
theorem zr290:Jc0 Tryz.prog 290=some (.agg #[(.int .i64 0),(.int .i64 0),(.int .i64 0),(.int .i64 0),(.int .i64 0),(.int .i64 0),(.int .i64 0),(.int .i64 0),(.int .i64 0),(.int .i64 0),(.int .i64 0),(.int .i64 0),(.int .i64 0)]):=by kernel_rfl
theorem eg313:Tryz.prog.eqGuardType Tryz.prog.depth 313=false:=by kernel_rfl
theorem si313:Tryz.prog.stoodInHeld 313=false:=by kernel_rfl
theorem eg314:Tryz.prog.eqGuardType Tryz.prog.depth 314=false:=by kernel_rfl
theorem si314:Tryz.prog.stoodInHeld 314=false:=by kernel_rfl
theorem zr314:Jc0 Tryz.prog 314=some (.agg #[(.slice none 0 0),(.slice none 0 0),(.slice none 0 0),(.slice none 0 0)]):=by kernel_rfl
theorem eg337:Tryz.prog.eqGuardType Tryz.prog.depth 337=false:=by kernel_rfl
theorem si337:Tryz.prog.stoodInHeld 337=false:=by kernel_rfl
theorem eg338:Tryz.prog.eqGuardType Tryz.prog.depth 338=false:=by kernel_rfl
theorem si338:Tryz.prog.stoodInHeld 338=false:=by kernel_rfl
theorem eg341:Tryz.prog.eqGuardType Tryz.prog.depth 341=false:=by kernel_rfl
theorem si341:Tryz.prog.stoodInHeld 341=false:=by kernel_rfl
theorem sz342:Jf5 Tryz.prog 342=some 12:=by kernel_rfl
theorem ag342:Jd2 Tryz.prog 342=some true:=by kernel_rfl
theorem eg342:Tryz.prog.eqGuardType Tryz.prog.depth 342=false:=by kernel_rfl
theorem si342:Tryz.prog.stoodInHeld 342=false:=by kernel_rfl
theorem zr342:Jc0 Tryz.prog 342=some (.agg #[(.int .i64 0),(.int .i64 0),(.int .i64 0),(.int .i64 0),(.int .i64 0),(.int .i64 0),(.int .i64 0),(.int .i64 0),(.int .i64 0),(.int .i64 0),(.int .i64 0),(.int .i64 0)]):=by kernel_rfl
theorem eg343:Tryz.prog.eqGuardType Tryz.prog.depth 343=false:=by kernel_rfl
theorem si343:Tryz.prog.stoodInHeld 343=false:=by kernel_rfl
theorem sz344:Jf5 Tryz.prog 344=some 13:=by kernel_rfl
theorem by344:Kq4 Tryz.prog 344=some 104:=by kernel_rfl
theorem ag344:Jd2 Tryz.prog 344=some true:=by kernel_rfl
theorem eg344:Tryz.prog.eqGuardType Tryz.prog.depth 344=false:=by kernel_rfl
theorem si344:Tryz.prog.stoodInHeld 344=false:=by kernel_rfl
theorem zr344:Jc0 Tryz.prog 344=some (.agg #[(.int .i64 0),(.int .i64 0),(.int .i64 0),(.int .i64 0),(.int .i64 0),(.int .i64 0),(.int .i64 0),(.int .i64 0),(.int .i64 0),(.int .i64 0),(.int .i64 0),(.int .i64 0),(.int .i64 0)]):=by kernel_rfl
theorem eg352:Tryz.prog.eqGuardType Tryz.prog.depth 352=false:=by kernel_rfl
theorem zr352:Jc0 Tryz.prog 352=some (.agg #[(.int .i64 0),(.int .i64 0),(.int .i64 0)]):=by kernel_rfl
theorem eg353:Tryz.prog.eqGuardType Tryz.prog.depth 353=false:=by kernel_rfl
theorem zr353:Jc0 Tryz.prog 353=some (.agg #[(.int .i64 0),(.int .i64 0)]):=by kernel_rfl
theorem eg375:Tryz.prog.eqGuardType Tryz.prog.depth 375=false:=by kernel_rfl
theorem si375:Tryz.prog.stoodInHeld 375=false:=by kernel_rfl
theorem sz376:Jf5 Tryz.prog 376=some 6:=by kernel_rfl
theorem ag376:Jd2 Tryz.prog 376=some true:=by kernel_rfl
theorem eg376:Tryz.prog.eqGuardType Tryz.prog.depth 376=false:=by kernel_rfl
theorem si376:Tryz.prog.stoodInHeld 376=false:=by kernel_rfl
theorem zr376:Jc0 Tryz.prog 376=some (.agg #[(.int .i64 0),(.int .i64 0),(.int .i64 0),(.int .i64 0),(.int .i64 0),(.int .i64 0)]):=by kernel_rfl
theorem eg388:Tryz.prog.eqGuardType Tryz.prog.depth 388=false:=by kernel_rfl
theorem co5:Tryz.prog.cellsOf 5=1:=by kernel_rfl
attribute [push_cast] sz2 by2 ag2 zr2 sz3 by3 ag3 zr3 sz4 ag4 sz22 ag22 zr22 eg23 sz24 by24 ag24 eg24 zr24 eg25 si25 sz26 ag26 eg26 si26 zr26 sz27 ag27 sz28 ag28 sz29 ag29 sz30 ag30 eg31 si31 sz32 ag32 eg32 si32 sz37 ag37 sz40 by40 ag40 zr40 eg41 si41 sz42 by42 ag42 eg42 si42 zr42 eg43 si43 sz44 ag44 eg44 si44 zr44 eg45 si45 sz46 eg46 si46 zr46 sz47 ag47 sz48 ag48 sz49 ag49 sz50 ag50 eg51 si51 sz52 ag52 eg52 si52 zr52 sz54 by54 ag54 eg54 zr54 eg55 si55 sz56 ag56 eg56 si56 zr56 eg58 si58 sz59 by59 ag59 eg59 si59 zr59 eg60 si60 sz61 ag61 eg61 si61 zr61 sz68 ag68 sz73 eg73 eg74 si74 sz75 ag75 eg75 si75 zr75 eg77 si77 sz78 by78 ag78 eg78 si78 zr78 sz82 ag82 eg82 eg83 si83 sz84 by84 ag84 eg84 si84 zr84 eg86 si86 sz87 ag87 eg87 si87 zr87 eg89 si89 sz90 ag90 eg90 si90 zr90 eg94 si94 sz95 ag95 eg95 si95 zr95 sz96 ag96 eg97 si97 sz98 ag98 eg98 si98 zr98 sz99 ag99 sz100 ag100 eg101 si101 sz102 ag102 eg102 si102 zr102 sz106 ag106 eg107 si107 sz108 ag108 eg108 si108 zr108 sz109 ag109 sz110 ag110 eg111 si111 sz112 ag112 eg112 si112 zr112 sz117 ag117 eg118 si118 sz119 by119 ag119 eg119 si119 zr119 sz123 ag123 eg124 si124 sz125 ag125 eg125 si125 zr125 sz126 ag126 eg127 si127 sz128 ag128 eg128 si128 zr128 eg134 si134 eg135 si135 zr135 eg137 si137 sz138 ag138 eg138 si138 zr138 eg139 si139 sz140 by140 ag140 eg140 si140 zr140 sz141 ag141 eg142 si142 sz143 ag143 eg143 si143 zr143 eg145 si145 sz146 ag146 eg146 si146 zr146 eg147 si147 sz148 by148 ag148 eg148 si148 zr148 eg149 si149 sz150 ag150 eg150 si150 zr150 eg151 si151 sz152 ag152 eg152 si152 zr152 eg154 si154 sz155 by155 ag155 eg155 si155 zr155 eg158 si158 sz159 ag159 eg159 si159 zr159 eg160 si160 sz161 ag161 eg161 si161 zr161 eg164 si164 sz165 ag165 eg165 si165 zr165 eg171 si171 sz172 ag172 eg172 si172 zr172 sz176 ag176 eg176 si176 zr176 eg179 si179 sz180 ag180 eg180 si180 zr180 eg182 si182 sz183 ag183 eg183 si183 zr183 eg188 si188 sz189 ag189 eg189 si189 zr189 eg203 si203 sz204 by204 ag204 eg204 si204 zr204 sz213 ag213 eg215 si215 eg216 si216 zr216 eg222 si222 sz223 by223 ag223 eg223 si223 zr223 sz224 ag224 sz225 ag225 eg225 si225 zr225 sz230 ag230 eg231 si231 sz232 ag232 eg232 si232 zr232 eg233 si233 sz234 by234 ag234 eg234 si234 zr234 eg250 si250 eg251 si251 zr251 eg254 si254 sz255 by255 ag255 eg255 si255 zr255 eg284 si284 sz285 ag285 eg285 si285 zr285 eg287 si287 sz288 ag288 eg288 si288 zr288 eg289 si289 sz290 ag290 eg290 si290 zr290 eg313 si313 eg314 si314 zr314 eg337 si337 eg338 si338 eg341 si341 sz342 ag342 eg342 si342 zr342 eg343 si343 sz344 by344 ag344 eg344 si344 zr344 eg352 zr352 eg353 zr353 eg375 si375 sz376 ag376 eg376 si376 zr376 eg388 co5 Tryz.underlying0 Tryz.underlying1 Tryz.underlying2 Tryz.underlying3 Tryz.underlying4 Tryz.underlying5 Tryz.underlying6 Tryz.underlying7 Tryz.underlying8 Tryz.underlying9 Tryz.underlying10 Tryz.underlying11 Tryz.underlying12 Tryz.underlying13 Tryz.underlying14 Tryz.underlying15 Tryz.underlying16 Tryz.underlying17 Tryz.underlying18 Tryz.underlying19 Tryz.underlying20 Tryz.underlying21 Tryz.underlying22 Tryz.underlying23 Tryz.underlying24 Tryz.underlying25 Tryz.underlying26 Tryz.underlying27 Tryz.underlying28 Tryz.underlying29 Tryz.underlying30 Tryz.underlying31 Tryz.underlying32 Tryz.underlying33 Tryz.underlying34 Tryz.underlying35 Tryz.underlying36 Tryz.underlying37 Tryz.underlying38 Tryz.underlying39 Tryz.underlying40 Tryz.underlying41 Tryz.underlying42 Tryz.underlying43 Tryz.underlying44 Tryz.underlying45 Tryz.underlying46 Tryz.underlying47 Tryz.underlying48 Tryz.underlying49 Tryz.underlying50 Tryz.underlying51 Tryz.underlying52 Tryz.underlying53 Tryz.underlying54 Tryz.underlying55 Tryz.underlying56 Tryz.underlying57 Tryz.underlying58 Tryz.underlying59 Tryz.underlying60 Tryz.underlying61 Tryz.underlying62 Tryz.underlying63 Tryz.underlying64 Tryz.underlying65 Tryz.underlying66 Tryz.underlying67 Tryz.underlying68 Tryz.underlying69 Tryz.underlying70 Tryz.underlying71 Tryz.underlying72 Tryz.underlying73 Tryz.underlying74 Tryz.underlying75 Tryz.underlying76 Tryz.underlying77 Tryz.underlying78 Tryz.underlying79 Tryz.underlying80 Tryz.underlying81 Tryz.underlying82 Tryz.underlying83 Tryz.underlying84 Tryz.underlying85 Tryz.underlying86 Tryz.underlying87 Tryz.underlying88 Tryz.underlying89 Tryz.underlying90 Tryz.underlying91 Tryz.underlying92 Tryz.underlying93 Tryz.underlying94 Tryz.underlying95 Tryz.underlying96 Tryz.underlying97 Tryz.underlying98 Tryz.underlying99 Tryz.underlying100 Tryz.underlying101 Tryz.underlying102 Tryz.underlying103 Tryz.underlying104 Tryz.underlying105 Tryz.underlying106 Tryz.underlying107 Tryz.underlying108 Tryz.underlying109 Tryz.underlying110 Tryz.underlying111 Tryz.underlying112 Tryz.underlying113 Tryz.underlying114 Tryz.underlying115 Tryz.underlying116 Tryz.underlying117 Tryz.underlying118 Tryz.underlying119 Tryz.underlying120 Tryz.underlying121 Tryz.underlying122 Tryz.underlying123 Tryz.underlying124 Tryz.underlying125 Tryz.underlying126 Tryz.underlying127 Tryz.underlying128 Tryz.underlying129 Tryz.underlying130 Tryz.underlying131 Tryz.underlying132 Tryz.underlying133 Tryz.underlying134 Tryz.underlying135 Tryz.underlying136 Tryz.underlying137 Tryz.underlying138 Tryz.underlying139 Tryz.underlying140 Tryz.underlying141 Tryz.underlying142 Tryz.underlying143 Tryz.underlying144 Tryz.underlying145 Tryz.underlying146 Tryz.underlying147 Tryz.underlying148 Tryz.underlying149 Tryz.underlying150 Tryz.underlying151 Tryz.underlying152 Tryz.underlying153 Tryz.underlying154 Tryz.underlying155 Tryz.underlying156 Tryz.underlying157 Tryz.underlying158 Tryz.underlying159 Tryz.underlying160 Tryz.underlying161 Tryz.underlying162 Tryz.underlying163 Tryz.underlying164 Tryz.underlying165 Tryz.underlying166 Tryz.underlying167 Tryz.underlying168 Tryz.underlying169 Tryz.underlying170 Tryz.underlying171 Tryz.underlying172 Tryz.underlying173 Tryz.underlying174 Tryz.underlying175 Tryz.underlying176 Tryz.underlying177 Tryz.underlying178 Tryz.underlying179 Tryz.underlying180 Tryz.underlying181 Tryz.underlying182 Tryz.underlying183 Tryz.underlying184 Tryz.underlying185 Tryz.underlying186 Tryz.underlying187 Tryz.underlying188 Tryz.underlying189 Tryz.underlying190 Tryz.underlying191 Tryz.underlying192 Tryz.underlying193 Tryz.underlying194 Tryz.underlying195 Tryz.underlying196 Tryz.underlying197 Tryz.underlying198 Tryz.underlying199 Tryz.underlying200 Tryz.underlying201 Tryz.underlying202 Tryz.underlying203 Tryz.underlying204 Tryz.underlying205 Tryz.underlying206 Tryz.underlying207 Tryz.underlying208 Tryz.underlying209 Tryz.underlying210 Tryz.underlying211 Tryz.underlying212 Tryz.underlying213 Tryz.underlying214 Tryz.underlying215 Tryz.underlying216 Tryz.underlying217 Tryz.underlying218 Tryz.underlying219 Tryz.underlying220 Tryz.underlying221 Tryz.underlying222 Tryz.underlying223 Tryz.underlying224 Tryz.underlying225 Tryz.underlying226 Tryz.underlying227 Tryz.underlying228 Tryz.underlying229 Tryz.underlying230 Tryz.underlying231 Tryz.underlying232 Tryz.underlying233 Tryz.underlying234 Tryz.underlying235 Tryz.underlying236 Tryz.underlying237 Tryz.underlying238 Tryz.underlying239 Tryz.underlying240 Tryz.underlying241 Tryz.underlying242 Tryz.underlying243 Tryz.underlying244 Tryz.underlying245 Tryz.underlying246 Tryz.underlying247 Tryz.underlying248 Tryz.underlying249 Tryz.underlying250 Tryz.underlying251 Tryz.underlying252 Tryz.underlying253 Tryz.underlying254 Tryz.underlying255 Tryz.underlying256 Tryz.underlying257 Tryz.underlying258 Tryz.underlying259 Tryz.underlying260 Tryz.underlying261 Tryz.underlying262 Tryz.underlying263 Tryz.underlying264 Tryz.underlying265 Tryz.underlying266 Tryz.underlying267 Tryz.underlying268 Tryz.underlying269 Tryz.underlying270 Tryz.underlying271 Tryz.underlying272 Tryz.underlying273 Tryz.underlying274 Tryz.underlying275 Tryz.underlying276 Tryz.underlying277 Tryz.underlying278 Tryz.underlying279 Tryz.underlying280 Tryz.underlying281 Tryz.underlying282 Tryz.underlying283 Tryz.underlying284 Tryz.underlying285 Tryz.underlying286 Tryz.underlying287 Tryz.underlying288 Tryz.underlying289 Tryz.underlying290 Tryz.underlying291 Tryz.underlying292 Tryz.underlying293 Tryz.underlying294 Tryz.underlying295 Tryz.underlying296 Tryz.underlying297 Tryz.underlying298 Tryz.underlying299 Tryz.underlying300 Tryz.underlying301 Tryz.underlying302 Tryz.underlying303 Tryz.underlying304 Tryz.underlying305 Tryz.underlying306 Tryz.underlying307 Tryz.underlying308 Tryz.underlying309 Tryz.underlying310 Tryz.underlying311 Tryz.underlying312 Tryz.underlying313 Tryz.underlying314 Tryz.underlying315 Tryz.underlying316 Tryz.underlying317 Tryz.underlying318 Tryz.underlying319 Tryz.underlying320 Tryz.underlying321 Tryz.underlying322 Tryz.underlying323 Tryz.underlying324 Tryz.underlying325 Tryz.underlying326 Tryz.underlying327 Tryz.underlying328 Tryz.underlying329 Tryz.underlying330 Tryz.underlying331 Tryz.underlying332 Tryz.underlying333 Tryz.underlying334 Tryz.underlying335 Tryz.underlying336 Tryz.underlying337 Tryz.underlying338 Tryz.underlying339 Tryz.underlying340 Tryz.underlying341 Tryz.underlying342 Tryz.underlying343 Tryz.underlying344 Tryz.underlying345 Tryz.underlying346 Tryz.underlying347 Tryz.underlying348 Tryz.underlying349 Tryz.underlying350 Tryz.underlying351 Tryz.underlying352 Tryz.underlying353 Tryz.underlying354 Tryz.underlying355 Tryz.underlying356 Tryz.underlying357 Tryz.underlying358 Tryz.underlying359 Tryz.underlying360 Tryz.underlying361 Tryz.underlying362 Tryz.underlying363 Tryz.underlying364 Tryz.underlying365 Tryz.underlying366 Tryz.underlying367 Tryz.underlying368 Tryz.underlying369 Tryz.underlying370 Tryz.underlying371 Tryz.underlying372 Tryz.underlying373 Tryz.underlying374 Tryz.underlying375 Tryz.underlying376 Tryz.underlying377 Tryz.underlying378 Tryz.underlying379 Tryz.underlying380 Tryz.underlying381 Tryz.underlying382 Tryz.underlying383 Tryz.underlying384 Tryz.underlying385 Tryz.underlying386 Tryz.underlying387 Tryz.underlying388 Tryz.underlying389 Tryz.underlying390 Tryz.underlying391 Tryz.underlying392 Tryz.underlying393 Tryz.underlying394 Tryz.underlying395 Tryz.underlying396 Tryz.underlying397 Tryz.underlying398 Tryz.underlying399 Tryz.underlying400 Tryz.underlying401
end Go.Proofs.YtaannomfigammaaGreat
