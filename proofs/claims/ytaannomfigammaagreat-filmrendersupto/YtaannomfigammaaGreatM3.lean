/- Walks and facts of this seat's program over abstract states, printed by programs of mine; no conditions but those that each theorem names. -/
import Derived.Test.YtaannomfigammaaGreatM2
import Derived.ScopeJumps
import Derived.Scope
import Derived.JoinedCond
import Derived.LaidMore
import Derived.Stop.Joined
import Derived.Laws.Externs
set_option linter.unusedVariables false
set_option linter.unusedSimpArgs false
namespace Go.Eng
open Go
deriving instance DecidableEq for CV
deriving instance DecidableEq for BK
deriving instance DecidableEq for Blk
def Xj5:Ja1->Ja1->Bool
 | [],_=>true
 | a::xa,b::bs=>decide (a=b)&&Xj5 xa bs
 | _::_,[]=>false
theorem Km4:∀ {m m':Ja1},Xj5 m m'=true->∃ x,m'=m++x
 | [],m',_=>⟨m',rfl⟩
 | a::xa,b::bs,h=>by
  simp only [Xj5,Bool.and_eq_true,decide_eq_true_eq] at h
  obtain ⟨rfl,h⟩:=h
  obtain ⟨x,rfl⟩:=Km4 h
  exact ⟨x,rfl⟩
 | _::_,[],h=>by cases h
abbrev Kt2:=FuncId->List AV->Ja1->Option (AV × Ja1)
section
variable (P:Program)(call:Kt2)
def Vy7 (ops:Array Oper):List Oper->Tm->Ja1->Option (Tm × Ja1)
 | [],tm,mem=>some (tm,mem)
 | o::rest,tm,mem =>
  match Jh3 ops o tm with
  | some true =>
   match o.op with
   | .store t x y=>match Jx2 P t (opd tm x) (opd tm y) mem with
    | some mem'=>Vy7 ops rest (putO o.dst (.one .und) tm) mem'
    | none=>none
   | .call ⟨.value f,args,_⟩=>match opd tm f with
    | .one (.fn g cs)=>match call g (args.toList.map (opd tm)++Ji9 cs) mem with
     | some (ret,mem')=>Vy7 ops rest (putO o.dst ret tm) mem'
     | none=>none
    | _=>none
   | op=>match Ji0 P (opd tm) mem op with
    | some (x,mem')=>Vy7 ops rest (putO o.dst x tm) mem'
    | none=>none
  | some false=>Vy7 ops rest (putO o.dst (.one .und) tm) mem
  | none=>none
def sameAt (r:Nat)(b:Blk):List Ja1->Bool
 | []=>true
 | M::Ms=>decide (M[r]?=some b)&&sameAt r b Ms
def Qi2 (Ms:List Ja1):List (Nat × Nat)->Bool
 | []=>true
 | (lo,r)::W=>(match Ms.drop lo with
  | []=>true
  | M::Ms'=>match M[r]? with
   | some b=>sameAt r b Ms'
   | none=>false)&&Qi2 Ms W
def upB (A:Option Ja1)(cur mem':Ja1):Bool :=
 match A with
 | some B=>Xj5 B cur&&Xj5 B mem'
 | none=>false
def rOpsD (ops:Array Oper):Pl->Tm->Ja1->List Ja1->List (Nat × Nat)->Option (Tm × Ja1)
 | [],tm,cur,hist,ws=>if Qi2 hist ws=true then some (tm,cur) else none
 | (o,p)::rest,tm,cur,hist,ws =>
  match Jh3 ops o tm with
  | some true =>
   match p with
   | .val=>match Ji0 P (opd tm) [] o.op with
    | some (x,[])=>rOpsD ops rest (putO o.dst x tm) cur hist ws
    | _=>none
   | .rd lo=>match o.op with
    | .load t y=>match hist[lo]? with
     | some M=>match Jt3 P t (opd tm y) M with
      | some x=>rOpsD ops rest (putO o.dst x tm) cur hist ws
      | none=>none
     | none=>none
    | _=>none
   | .rw lo=>match o.op with
    | .load t y=>match opd tm y,hist[lo]? with
     | .one (.ptr r ver off),some M=>match Jt3 P t (.one (.ptr r ver off)) M with
      | some x=>rOpsD ops rest (putO o.dst x tm) cur hist ((lo,r)::ws)
      | none=>none
     | _,_=>none
    | _=>none
   | .ext=>match o.op with
    | .store _ _ _=>none
    | .call ⟨.value f,args,_⟩=>match opd tm f with
     | .one (.fn g cs)=>match call g (args.toList.map (opd tm)++Ji9 cs) cur with
      | some (ret,mem')=>if Xj5 cur mem'=true then rOpsD ops rest (putO o.dst ret tm) mem' (hist++[mem']) ws else none
      | none=>none
     | _=>none
    | op=>match Ji0 P (opd tm) cur op with
     | some (x,mem')=>if Xj5 cur mem'=true then rOpsD ops rest (putO o.dst x tm) mem' (hist++[mem']) ws else none
     | none=>none
   | .up q=>match Ji0 P (opd tm) cur o.op with
    | some (x,mem')=>if upB hist[q]? cur mem'=true then rOpsD ops rest (putO o.dst x tm) mem' (hist++[mem']) ws else none
    | none=>none
   | .fl=>match o.op,o.guard with
    | .alloc t,none=>match Jc0 P t with
     | some z=>rOpsD ops rest (putO o.dst (.one (.ptr cur.length 0 0)) tm) (cur++[⟨.fix,t,0,0,z.cells.toList.map Jj4⟩]) (hist++[cur++[⟨.fix,t,0,0,z.cells.toList.map Jj4⟩]]) ws
     | none=>none
    | _,_=>none
   | .wr=>match o.op with
    | .store t x y=>match Jx2 P t (opd tm x) (opd tm y) cur with
     | some mem'=>rOpsD ops rest (putO o.dst (.one .und) tm) mem' (hist++[mem']) ws
     | none=>none
    | .call ⟨.value f,args,_⟩=>match opd tm f with
     | .one (.fn g cs)=>match call g (args.toList.map (opd tm)++Ji9 cs) cur with
      | some (ret,mem')=>rOpsD ops rest (putO o.dst ret tm) mem' (hist++[mem']) ws
      | none=>none
     | _=>none
    | op=>match Ji0 P (opd tm) cur op with
     | some (x,mem')=>rOpsD ops rest (putO o.dst x tm) mem' (hist++[mem']) ws
     | none=>none
  | some false=>rOpsD ops rest (putO o.dst (.one .und) tm) cur (if p.chain then hist++[cur] else hist) ws
  | none=>none
def Vp6 (c:Tm->Ja1->Option (Exit × Tm × Ja1)):Nat->Tm->Ja1->Option (Exit × Tm × Ja1)
 | 0,_,_=>none
 | n+1,tm,mem=>match c tm mem with
  | some (.normal,tm',mem')=>Vp6 c n tm' mem'
  | r=>r
variable (pls:Nat->List Plan)(nt L:Nat)
def Jw4:Code->Tm->Ja1->Option (Exit × Tm × Ja1)
 | .skip,tm,mem=>some (.normal,tm,mem)
 | .ret,tm,mem=>some (.ret,tm,mem)
 | .exit id,tm,mem=>some (.exit id,tm,mem)
 | .seq x y,tm,mem=>match Jw4 x tm mem with
  | some (.normal,tm',mem')=>Jw4 y tm' mem'
  | r=>r
 | .block id c,tm,mem=>match Jw4 c tm mem with
  | some (.exit id',tm',mem')=>if id'=id then some (.normal,tm',mem') else some (.exit id',tm',mem')
  | r=>r
 | .cond c x y,tm,mem=>match opd tm c with
  | .one (.bool true)=>Jw4 x tm mem
  | .one (.bool false)=>Jw4 y tm mem
  | _=>none
 | .loop c,tm,mem=>Vp6 (Jw4 c) L tm mem
 | .region id ops false,tm,mem=>if ops.toList.all (Jz6 nt)=true then (Vy7 P call ops ops.toList tm mem).map fun x=>(.normal,x.1,x.2) else none
 | .region id ops true,tm,mem=>if (pls id).length=ops.toList.length/\Jx6 nt (ops.toList.zip (pls id))=true then
   (rOpsD P call ops (ops.toList.zip (pls id)) tm mem [mem] []).map fun x=>(.normal,x.1,x.2) else none
 | _,_,_=>none
end
def Vp7 (P:Program)(pls:Nat->Nat->List Plan)(L:Nat):Nat->Kt2
 | 0,_,_,_=>none
 | n+1,g,args,mem=>match P.funcs[g]? with
  | some fn=>match fn.body with
   | some c => if (fn.name == "runtime.NumGoroutine") = false then
     match Jw4 P (Vp7 P pls L n) (pls g) fn.ntmps L c (Jp2 0 args) mem with
     | some (.normal,tm,m)=>(Je0 P fn.results.toList tm m).map fun x=>(x,m)
     | some (.ret,tm,m)=>(Je0 P fn.results.toList tm m).map fun x=>(x,m)
     | _=>none
    else none
   | none=>none
  | none=>none
def Qp9 (P:Program)(call:Kt2):Prop:=∀ g args mem ret mem',call g args mem=some (ret,mem')->Ctr P g args mem ret mem'
section
variable {P:Program}{call:Kt2}
theorem Km2 (hc:Qp9 P call){ops:Array Oper}:∀ (l:List Oper) (tm:Tm) (mem:Ja1) (tm':Tm) (mem':Ja1) (K:Tm->Ja1->Prop),Vy7 P call ops l tm mem=some (tm',mem')->K tm' mem'->AOps P ops l tm mem K
 | [],tm,mem,tm',mem',K,h,hk=>by
  simp only [Vy7,Option.some.injEq,Prod.mk.injEq] at h
  obtain ⟨rfl,rfl⟩:=h;exact hk
 | o::rest,tm,mem,tm',mem',K,h,hk=>by
  rw [Vy7] at h
  rw [AOps]
  split at h
  ·rename_i hw
   rw [hw]
   simp only
   split at h
   ·rename_i t x y hop
    split at h
    ·rename_i m1 hs
     rw [hop];simp only [hs]
     exact Km2 hc rest _ _ _ _ K h hk
    ·cases h
   ·rename_i f args ts hop
    split at h
    ·rename_i g cs hf
     split at h
     ·rename_i ret m1 hcall
      rw [hop];simp only [hf]
      exact ⟨ret,m1,hc _ _ _ _ _ hcall,Km2 hc rest _ _ _ _ K h hk⟩
     ·cases h
    ·cases h
   ·rename_i h1 h2
    split at h
    ·rename_i x m1 hv
     split
     ·rename_i t x y hop;exact absurd hop (h1 t x y)
     ·rename_i f args ts hop;exact absurd hop (h2 f args ts)
     ·simp only [hv]
      exact Km2 hc rest _ _ _ _ K h hk
    ·cases h
  ·rename_i hw
   rw [hw]
   exact Km2 hc rest _ _ _ _ K h hk
  ·cases h
theorem Kz2 {r:Nat}{b:Blk}:∀ {Ms:List Ja1},sameAt r b Ms=true->Qd8 r b Ms
 | [],_=>trivial
 | M::Ms,h=>by
  simp only [sameAt,Bool.and_eq_true,decide_eq_true_eq] at h
  exact ⟨h.1,Kz2 h.2⟩
theorem Ky2 {Ms:List Ja1}:∀ {W:List (Nat × Nat)},Qi2 Ms W=true->Kj3 Ms W
 | [],_=>trivial
 | (lo,r)::W,h=>by
  simp only [Qi2,Bool.and_eq_true] at h
  refine ⟨?_,Ky2 h.2⟩
  have h1:=h.1
  split
  ·trivial
  ·rename_i M Ms' hd
   rw [hd] at h1
   simp only at h1
   split
   ·rename_i b hm;rw [hm] at h1;exact Kz2 h1
   ·rename_i hm;rw [hm] at h1;cases h1
theorem Xt4 {A:Option Ja1}{cur mem':Ja1}(h:upB A cur mem'=true):∃ B x0 y0,A=some B/\cur=B++x0/\mem'=B++y0:=by
 unfold upB at h
 split at h
 ·rename_i B
  simp only [Bool.and_eq_true] at h
  obtain ⟨x0,hx⟩:=Km4 h.1
  obtain ⟨y0,hy⟩:=Km4 h.2
  exact ⟨B,x0,y0,rfl,hx,hy⟩
 ·cases h
theorem Jk4 (hc:Qp9 P call){ops:Array Oper}:∀ (l:Pl) (tm:Tm) (cur:Ja1) (hist:List Ja1) (ws:List (Nat × Nat)) (tm':Tm) (mem':Ja1) (K:Tm->Ja1->Prop),
  rOpsD P call ops l tm cur hist ws=some (tm',mem')->K tm' mem'->AOpsD P ops l tm cur hist ws K
 | [],tm,cur,hist,ws,tm',mem',K,h,hk=>by
  simp only [rOpsD] at h
  split at h
  ·rename_i hw
   simp only [Option.some.injEq,Prod.mk.injEq] at h
   obtain ⟨rfl,rfl⟩:=h;exact ⟨Kb6 (Ky2 hw),hk⟩
  ·cases h
 | (o,p)::rest,tm,cur,hist,ws,tm',mem',K,h,hk=>by
  rw [rOpsD.eq_def] at h
  simp only at h
  rw [AOpsD.eq_def]
  simp only
  split at h
  ·rename_i hw
   rw [hw]
   simp only
   cases p with
   | val =>
    simp only at h ⊢
    split at h
    ·rename_i x hv;rw [hv];exact Jk4 hc rest _ _ _ _ _ _ K h hk
    ·cases h
   | rd lo =>
    simp only at h ⊢
    split at h
    ·rename_i t y hop
     split at h
     ·rename_i M hM
      split at h
      ·rename_i x hx
       rw [hop];simp only [hM,hx];exact Jk4 hc rest _ _ _ _ _ _ K h hk
      ·cases h
     ·cases h
    ·cases h
   | rw lo =>
    simp only at h ⊢
    split at h
    ·rename_i t y hop
     split at h
     ·rename_i r ver off M hy hM
      split at h
      ·rename_i x hx
       rw [hop];simp only [hy,hM,hx];exact Jk4 hc rest _ _ _ _ _ _ K h hk
      ·cases h
     ·cases h
    ·cases h
   | ext =>
    simp only at h ⊢
    split at h
    ·cases h
    ·rename_i f args ts hop
     split at h
     ·rename_i g cs hf
      split at h
      ·rename_i ret m1 hcall
       split at h
       ·rename_i hp
        obtain ⟨extra,rfl⟩:=Km4 hp
        rw [hop];simp only [hf]
        exact ⟨ret,extra,hc _ _ _ _ _ hcall,Jk4 hc rest _ _ _ _ _ _ K h hk⟩
       ·cases h
      ·cases h
     ·cases h
    ·rename_i h1 h2
     split at h
     ·rename_i x m1 hv
      split at h
      ·rename_i hp
       split
       ·rename_i t x y hop;exact absurd hop (h1 t x y)
       ·rename_i f args ts hop;exact absurd hop (h2 f args ts)
       ·simp only [hv]
        exact ⟨Km4 hp,Jk4 hc rest _ _ _ _ _ _ K h hk⟩
      ·cases h
     ·cases h
   | up q =>
    simp only at h ⊢
    split at h
    ·rename_i x m1 hv
     split at h
     ·rename_i hp
      rw [hv]
      exact ⟨Xt4 hp,Jk4 hc rest _ _ _ _ _ _ K h hk⟩
     ·cases h
    ·cases h
   | fl =>
    simp only at h ⊢
    split at h
    ·rename_i t hop hg
     split at h
     ·rename_i z hz
      rw [hop,hg];simp only [hz];exact Jk4 hc rest _ _ _ _ _ _ K h hk
     ·cases h
    ·cases h
   | wr =>
    simp only at h ⊢
    split at h
    ·rename_i t x y hop
     split at h
     ·rename_i m1 hs
      rw [hop];simp only [hs];exact Jk4 hc rest _ _ _ _ _ _ K h hk
     ·cases h
    ·rename_i f args ts hop
     split at h
     ·rename_i g cs hf
      split at h
      ·rename_i ret m1 hcall
       rw [hop];simp only [hf]
       exact ⟨ret,m1,hc _ _ _ _ _ hcall,Jk4 hc rest _ _ _ _ _ _ K h hk⟩
      ·cases h
     ·cases h
    ·rename_i h1 h2
     split at h
     ·rename_i x m1 hv
      split
      ·rename_i t x y hop;exact absurd hop (h1 t x y)
      ·rename_i f args ts hop;exact absurd hop (h2 f args ts)
      ·simp only [hv]
       exact Jk4 hc rest _ _ _ _ _ _ K h hk
     ·cases h
  ·rename_i hw
   rw [hw]
   exact Jk4 hc rest _ _ _ _ _ _ K h hk
  ·cases h
variable {pls:Nat->List Plan}{nt L:Nat}
theorem Qk2 {c:Code}{f:Tm->Ja1->Option (Exit × Tm × Ja1)}(hf:∀ tm mem ex tm' mem' (Q:Exit->Tm->Ja1->Prop),f tm mem=some (ex,tm',mem')->Q ex tm' mem'->AW P nt c tm mem Q) :
  ∀ (n:Nat) (tm:Tm) (mem:Ja1) (ex:Exit) (tm':Tm) (mem':Ja1) (Q:Exit->Tm->Ja1->Prop),Vp6 f n tm mem=some (ex,tm',mem')->Q ex tm' mem'->ARounds P nt c Q n tm mem
 | 0,_,_,_,_,_,_,h,_=>by cases h
 | n+1,tm,mem,ex,tm',mem',Q,h,hq=>by
  simp only [Vp6] at h
  split at h
  ·rename_i tm1 mem1 h1
   exact hf _ _ _ _ _ _ h1 (Qk2 hf n _ _ _ _ _ Q h hq)
  ·rename_i r hne
   have hex:ex≠.normal:=by rintro rfl;exact hne _ _ h
   refine hf _ _ _ _ _ _ h ?_
   cases ex with
   | normal=>exact absurd rfl hex
   | _=>exact hq
theorem Qk4 (hc:Qp9 P call)(hfol:P.follows .mixedOrders=true):∀ (c:Code) (tm:Tm) (mem:Ja1) (ex:Exit) (tm':Tm) (mem':Ja1) (Q:Exit->Tm->Ja1->Prop),
  Jw4 P call pls nt L c tm mem=some (ex,tm',mem')->Q ex tm' mem'->AW P nt c tm mem Q:=by
 intro c
 induction c with
 | skip=>intro tm mem ex tm' mem' Q h hq;simp only [Jw4,Option.some.injEq,Prod.mk.injEq] at h;obtain ⟨rfl,rfl,rfl⟩:=h;exact AW.z hq
 | ret=>intro tm mem ex tm' mem' Q h hq;simp only [Jw4,Option.some.injEq,Prod.mk.injEq] at h;obtain ⟨rfl,rfl,rfl⟩:=h;exact AW.ret hq
 | exit id=>intro tm mem ex tm' mem' Q h hq;simp only [Jw4,Option.some.injEq,Prod.mk.injEq] at h;obtain ⟨rfl,rfl,rfl⟩:=h;exact AW.v hq
 | seq x y ihx ihy =>
  intro tm mem ex tm' mem' Q h hq
  simp only [Jw4] at h
  split at h
  ·rename_i tm1 mem1 h1
   exact AW.seq (ihx _ _ _ _ _ _ h1 (ihy _ _ _ _ _ _ h hq))
  ·rename_i r hne
   have hex:ex≠.normal:=by rintro rfl;exact hne _ _ h
   refine AW.seq (ihx _ _ _ _ _ _ h ?_)
   cases ex with
   | normal=>exact absurd rfl hex
   | _=>exact hq
 | block id c ih =>
  intro tm mem ex tm' mem' Q h hq
  simp only [Jw4] at h
  refine AW.b ?_
  split at h
  ·rename_i id' tm1 mem1 h1
   refine ih _ _ _ _ _ _ h1 ?_
   split at h
   ·rename_i he
    simp only [Option.some.injEq,Prod.mk.injEq] at h;obtain ⟨rfl,rfl,rfl⟩:=h
    subst he;exact Jq0 hq
   ·rename_i he
    simp only [Option.some.injEq,Prod.mk.injEq] at h;obtain ⟨rfl,rfl,rfl⟩:=h
    exact Vj2 he hq
  ·rename_i r hne
   refine ih _ _ _ _ _ _ h ?_
   cases ex with
   | exit id'=>exact absurd h (hne _ _ _)
   | _=>exact hq
 | cond c x y ihx ihy =>
  intro tm mem ex tm' mem' Q h hq
  simp only [Jw4] at h
  split at h
  ·rename_i hb;exact AW.y hb (ihx _ _ _ _ _ _ h hq)
  ·rename_i hb;exact AW.x hb (ihy _ _ _ _ _ _ h hq)
  ·cases h
 | loop c ih =>
  intro tm mem ex tm' mem' Q h hq
  simp only [Jw4] at h
  exact AW.r L (Qk2 ih _ _ _ _ _ _ _ h hq)
 | region id ops b =>
  intro tm mem ex tm' mem' Q h hq
  cases b with
  | false =>
   simp only [Jw4] at h
   split at h
   ·rename_i hd
    simp only [Option.map_eq_some_iff,Prod.mk.injEq] at h
    obtain ⟨⟨tm1,mem1⟩,h1,rfl,rfl,rfl⟩:=h
    have h2:AOps P ops ops.toList tm mem (Q .normal):=Km2 hc _ _ _ _ _ _ h1 hq
    have h3:=AW.region (P:=P) (nt:=nt) (id:=id) (l:=ops.toList) (tm:=tm) (mem:=mem) (Q:=Q) hd (by simpa using h2)
    simpa using h3
   ·cases h
  | true =>
   simp only [Jw4] at h
   split at h
   ·rename_i hd
    simp only [Option.map_eq_some_iff,Prod.mk.injEq] at h
    obtain ⟨⟨tm1,mem1⟩,h1,rfl,rfl,rfl⟩:=h
    have h2:=Jk4 hc _ _ _ _ _ _ _ (Q .normal) h1 hq
    have h3:=AW.draw (P:=P) (nt:=nt) (id:=id) (l:=ops.toList) (tm:=tm) (mem:=mem) (Q:=Q) (pls id) hfol hd.1 hd.2 (by simpa using h2)
    simpa using h3
   ·cases h
 | _=>intro tm mem ex tm' mem' Q h hq;simp only [Jw4] at h;cases h
end
theorem Hands.all {x:AV}{mem:Ja1}{L:Nat}:Hands L x mem x mem:=fun ρ v w hv hm=>⟨ρ,hv,hm,fun _ _ _ _ h=>h⟩
theorem Qk3 {P:Program}{pls:Nat->Nat->List Plan}{L:Nat}(hfol:P.follows .mixedOrders=true):∀ n:Nat,Qp9 P (Vp7 P pls L n)
 | 0=>fun g args mem ret mem' h=>by cases h
 | n+1=>fun g args mem ret mem' h=>by
  simp only [Vp7] at h
  split at h
  ·rename_i fn hfn
   split at h
   ·rename_i c hb
    split at h
    ·rename_i hname
     have ok:=Qk3 (P:=P) (pls:=pls) (L:=L) hfol n
     split at h
     ·rename_i tm m hr
      simp only [Option.map_eq_some_iff,Prod.mk.injEq] at h
      obtain ⟨x,hx,rfl,rfl⟩:=h
      exact Ctr.of_body hfn hb hname fun hw=>Qk4 ok hfol _ _ _ _ _ _ _ hr ⟨.inl rfl,x,hx,Hands.all⟩
     ·rename_i tm m hr
      simp only [Option.map_eq_some_iff,Prod.mk.injEq] at h
      obtain ⟨x,hx,rfl,rfl⟩:=h
      exact Ctr.of_body hfn hb hname fun hw=>Qk4 ok hfol _ _ _ _ _ _ _ hr ⟨.inr rfl,x,hx,Hands.all⟩
     ·cases h
    ·cases h
   ·cases h
  ·cases h
theorem Ctr.closed {P:Program}{f:FuncId}{args:List AV}{ret:AV}{mem':Ja1}(h:Ctr P f args [] ret mem')(ha:∀ a,a ∈ args->a.below 0=true)(hr:ret.below 0=true)(m:Ja1):Ctr P f args m ret m:=by
 refine fun ρ w vs hm hargs=>?_
 have h0:RepM (ρ.upto 0) [] w:=⟨fun r b h=>by simp at h,fun r v _=>by simp [Env.upto],fun r b v h=>by simp at h,fun r s b c h=>by simp at h⟩
 have hargs':∀ {xa:List AV} {vs:List Value},(∀ a,a ∈ xa->a.below 0=true)->All2 (VR ρ) xa vs->All2 (VR (ρ.upto 0)) xa vs:=by
  intro xa
  induction xa with
  | nil=>intro vs _ h;cases vs with
   | nil=>trivial
   | cons _ _=>exact h.elim
  | cons a xa ih=>intro vs hb h;cases vs with
   | nil=>exact h.elim
   | cons v vs=>exact ⟨h.1.upto (hb a List.mem_cons_self),ih (fun a ha=>hb a (List.mem_cons_of_mem _ ha)) h.2⟩
 refine (h _ w vs h0 (hargs' ha hargs)).mono ?_
 rintro e w' ⟨v,ρ',rfl,hv,hm',hs⟩
 have hfr:∀ n,n<w.heap.size->w'.heap[n]?=w.heap[n]?:=fun n hn=>hs.frame n hn fun r b x k hb=>by simp at hb
 have hm2:RepM ρ m w':=by
  refine ⟨fun r b hb=>?_,hm.dom,hm.domv,hm.sep⟩
  exact (hm.blk r b hb).heap hs.size fun x k hx hne hlt=>hfr _ hlt
 refine ⟨v,ρ,rfl,?_,hm2,?_⟩
 ·exact (hv.upto hr).mono (fun r v x hx=>by simp [Env.upto] at hx)
 ·exact ⟨hs.os,hs.tape,hs.output,hs.size,Nat.le_refl _,fun _ _ _ _ h=>h,fun r b b' h h'=>by rw [h] at h';injection h' with h';rw [h'],fun r b h _=>h,fun n hn _=>hfr n hn,fun r b x k h hk hx=>.inr ⟨r,b,x,k,h,hk,hx,rfl⟩⟩
theorem Ctr.run {P:Program}{f:FuncId}{args:List AV}{ret:AV}(pls:Nat->Nat->List Plan)(L n:Nat)(hfol:P.follows .mixedOrders=true)(h:((Vp7 P pls L n f args []).map (·.1))=some ret)(ha:∀ a,a ∈ args->a.below 0=true)(hr:ret.below 0=true)(m:Ja1):Ctr P f args m ret m:=by
 rw [Option.map_eq_some_iff] at h
 obtain ⟨⟨x,mem'⟩,h1,rfl⟩:=h
 exact Ctr.closed (Qk3 hfol n _ _ _ _ _ h1) ha hr m
theorem set_self {α:Type}:∀ {l:List α} {j:Nat} {v:α},l[j]?=some v->l.set j v=l
 | [],_,_,_=>rfl
 | x::l,0,v,h=>by simp at h;subst h;rfl
 | x::l,j+1,v,h=>by simp at h;simp [set_self h]
theorem All2.set_left {α β:Type}{R:α->β->Prop}{xa:List α}{bs:List β}(h:All2 R xa bs){j:Nat}{a:α}{b:β}(hb:bs[j]?=some b)(hr:R a b):All2 R (xa.set j a) bs:=by
 have:=h.set (i:=j) hr
 rwa [set_self hb] at this
section
variable {P:Program}{nt:Nat}{tm:Tm}{mem:Ja1}
theorem Vd2 {ρ:Env}{L:Nat}{v:Value}(h:VC ρ .nils v):VC (ρ.set L 0 (none,0)) (.sl L 0 0 0) v:=by
 have e:v=.slice none 0 0:=h
 subst e
 exact ⟨none,0,none,0,Env.set_same _ _ _ _,rfl,Nat.le_refl _,fun h=>by omega,fun _=>⟨rfl,rfl⟩⟩
theorem Rep.nilRow {ρ:Env}{a:Act}{w:World}(hr:Rep ρ nt tm mem a w)(ty esz:Nat)(mem1:Ja1)(hlen:mem1.length=mem.length)(hk:∀ (r:Nat) (b1:Blk),mem1[r]?=some b1->∃ b,mem[r]?=some b/\b1.kind=b.kind/\b1.ver=b.ver/\(b.kind=.ro->b1=b))
  (hb:∀ (r:Nat) (b1:Blk),mem1[r]?=some b1->BlkR (ρ.set mem.length 0 (none,0)) w r b1) (tm1:Tm) (ht:∀ i,VR (ρ.set mem.length 0 (none,0)) (Tm.get tm1 i) (a.tmps.getD i undef)) :
  Rep (ρ.set mem.length 0 (none,0)) nt tm1 (mem1++[⟨.grow,ty,0,esz,[]⟩]) a w/\∀ m0 ρ0 w0,Step m0 ρ0 w0 mem ρ w->Step m0 ρ0 w0 (mem1++[⟨.grow,ty,0,esz,[]⟩]) (ρ.set mem.length 0 (none,0)) w:=by
 have hle:ρ.le (ρ.set mem.length 0 (none,0)):=Env.le_set (hr.mem.dom _ _ (Nat.le_refl _))
 have hgt:∀ {s:Nat} {d:Blk},(mem1++[⟨.grow,ty,0,esz,[]⟩])[s]?=some d->(s<mem.length/\mem1[s]?=some d)\/(s=mem.length/\d=⟨.grow,ty,0,esz,[]⟩):=by
  intro s d hd
  rcases Nat.lt_or_ge s mem1.length with h|h
  ·rw [List.getElem?_append_left h] at hd;exact .inl ⟨by omega,hd⟩
  ·rw [List.getElem?_append_right h] at hd
   have hl:=(List.getElem?_eq_some_iff.1 hd).1
   simp at hl
   have:s=mem.length:=by omega
   subst this
   simp [hlen] at hd
   exact .inr ⟨rfl,hd.symm⟩
 have hoth:∀ {s v:Nat},s<mem.length->ρ.set mem.length 0 (none,0) s v=ρ s v:=fun {s v} h=>Env.set_other ρ _ (by omega)
 refine ⟨⟨hr.size,ht,⟨?_,?_,?_,?_⟩⟩,?_⟩
 ·intro s d hd
  rcases hgt hd with ⟨_,h1⟩|⟨rfl,rfl⟩
  ·exact hb s d h1
  ·exact .inl ⟨rfl,Env.set_same _ _ _ _⟩
 ·intro s v hs
  simp at hs
  rw [Env.set_other ρ _ (by omega)]
  exact hr.mem.dom s v (by omega)
 ·intro s d v hd hv
  rcases hgt hd with ⟨hl,h1⟩|⟨rfl,rfl⟩
  ·obtain ⟨b,h2,_,h3,_⟩:=hk s d h1
   rw [hoth hl];exact hr.mem.domv s b v h2 (by omega)
  ·simp only at hv
   rw [Env.set_other ρ _ (by omega)]
   exact hr.mem.dom _ _ (Nat.le_refl _)
 ·intro s t d e hd he hst hkd hne x y k1 k2 hx hy
  rcases hgt hd with ⟨hl,h1⟩|⟨rfl,rfl⟩
  ·rcases hgt he with ⟨hl',h1'⟩|⟨rfl,rfl⟩
   ·obtain ⟨b,h2,h3,h4,h5⟩:=hk s d h1
    obtain ⟨b',h2',h3',h4',h5'⟩:=hk t e h1'
    rw [hoth hl,h4] at hx
    rw [hoth hl',h4'] at hy
    exact hr.mem.sep s t b b' h2 h2' hst (by rw [<-h3];exact hkd) (fun h=>by rw [<-h5' h];exact hne (by rw [h3'];exact h)) x y k1 k2 hx hy
   ·simp only [Env.set_same] at hy
    injection hy with hy;injection hy with hy _;cases hy
  ·simp only [Env.set_same] at hx
   injection hx with hx;injection hx with hx _;cases hx
 ·intro m0 ρ0 w0 hs
  refine ⟨hs.os,hs.tape,hs.output,hs.size,?_,fun r hr v x hx=>hle _ _ _ (hs.ext r hr v x hx),?_,?_,?_,?_⟩
  ·have:=hs.len;simp;omega
  ·intro r b b' hb0 hb'
   have hl0:=(List.getElem?_eq_some_iff.1 hb0).1
   have:=hs.len
   rcases hgt hb' with ⟨hl,h1⟩|⟨rfl,rfl⟩
   ·obtain ⟨b2,h2,h3,_,_⟩:=hk r b' h1
    rw [h3];exact hs.kind r b b2 hb0 h2
   ·omega
  ·intro r b' hb' hro
   rcases hgt hb' with ⟨hl,h1⟩|⟨rfl,rfl⟩
   ·obtain ⟨b2,h2,h3,_,h5⟩:=hk r b' h1
    have e:=h5 (by rw [<-h3];exact hro)
    subst e
    exact hs.ro r b' h2 hro
   ·cases hro
  ·exact hs.frame
  ·intro r b' x k hb' hkd hx
   rcases hgt hb' with ⟨hl,h1⟩|⟨rfl,rfl⟩
   ·obtain ⟨b2,h2,h3,h4,h5⟩:=hk r b' h1
    rw [hoth hl,h4] at hx
    exact hs.fresh r b2 x k h2 (by rw [<-h3];exact hkd) hx
   ·simp only [Env.set_same] at hx
    injection hx with hx;injection hx with hx _;cases hx
theorem BlkR.nilCell {ρ ρ':Env}(hle:ρ.le ρ'){w:World}{r:Nat}{b:Blk}(hb:BlkR ρ w r b)(hk:b.kind≠.ro){j:Nat}(hj:b.cells[j]?=some .nils){c:CV}(hc:∀ v,VC ρ .nils v->VC ρ' c v):BlkR ρ' w r { b with cells:=b.cells.set j c }:=by
 obtain ⟨kind,ty,ver,esz,cells⟩:=b
 cases kind with
 | fix =>
  obtain ⟨n,cs,k,h1,h2,h3,hkk⟩:=hb
  obtain ⟨v,hv,hr⟩:=h3.get hj
  exact ⟨n,cs,k,hle _ _ _ h1,h2,(h3.mono fun _ _=>VC.mono hle).set_left hv (hc v hr),hkk⟩
 | grow =>
  rcases hb with ⟨h1,h2⟩|⟨n,cs,cap,xs,sp,h1,h2,h3,hcm,h4,h5⟩
  ·simp only at h1;subst h1;simp at hj
  ·obtain ⟨v,hv,hr⟩:=h5.get hj
   exact .inr ⟨n,cs,cap,xs,sp,hle _ _ _ h1,h2,h3,hcm,h4,(h5.mono fun _ _=>VC.mono hle).set_left hv (hc v hr)⟩
 | ro=>exact absurd rfl hk
 | map ka va clock es=>obtain ⟨n,o,k,_,_,_,h⟩:=hb;simp only at h;subst h;simp at hj
 | iter rm since seen last=>obtain ⟨n,N,k,k',_,_,_,h⟩:=hb;simp only at h;subst h;simp at hj
theorem AW.nilCell {c:Code}{Q:Exit->Tm->Ja1->Prop}(ty esz:Nat)(r j:Nat){b:Blk}(hb:mem[r]?=some b)(hk:b.kind≠.ro)(hj:b.cells[j]?=some .nils)
  (h:AW P nt c tm (mem.set r { b with cells:=b.cells.set j (.sl mem.length 0 0 0) }++[⟨.grow,ty,0,esz,[]⟩]) Q):AW P nt c tm mem Q:=by
 intro ρ a w hr
 have hle:ρ.le (ρ.set mem.length 0 (none,0)):=Env.le_set (hr.mem.dom _ _ (Nat.le_refl _))
 have hrl:=(List.getElem?_eq_some_iff.1 hb).1
 have hgt:∀ {s:Nat} {d:Blk},(mem.set r { b with cells:=b.cells.set j (.sl mem.length 0 0 0) })[s]?=some d->(s≠r/\mem[s]?=some d)\/(s=r/\d={ b with cells:=b.cells.set j (.sl mem.length 0 0 0) }):=by
  intro s d hd
  by_cases hs:s=r
  ·subst hs;rw [List.getElem?_set_self hrl] at hd;injection hd with hd;exact .inr ⟨rfl,hd.symm⟩
  ·rw [List.getElem?_set_ne (fun e=>hs e.symm)] at hd;exact .inl ⟨hs,hd⟩
 obtain ⟨h1,h2⟩:=hr.nilRow ty esz (mem.set r { b with cells:=b.cells.set j (.sl mem.length 0 0 0) }) (by simp) (fun s d hd=>by
   rcases hgt hd with ⟨_,h1⟩|⟨e1,e2⟩
   ·exact ⟨d,h1,rfl,rfl,fun _=>rfl⟩
   ·subst e1;subst e2;exact ⟨b,hb,rfl,rfl,fun h=>absurd h hk⟩) (fun s d hd=>by
   rcases hgt hd with ⟨_,h1⟩|⟨e1,e2⟩
   ·exact (hr.mem.blk s d h1).mono hle
   ·subst e1;subst e2;exact (hr.mem.blk s b hb).nilCell hle hk hj fun v hv=>Vd2 hv) tm (fun i=>(hr.tm i).mono hle)
 refine wp_mono (h _ a w h1) ?_
 rintro e a' w' ⟨ρ2,tm2,mem2,hr2,hs2,hd,hq⟩
 exact ⟨ρ2,tm2,mem2,hr2,(h2 mem ρ w (Step.refl _ _ _)).trans hs2,hd,hq⟩
theorem AW.nilTm {c:Code}{Q:Exit->Tm->Ja1->Prop}(ty esz:Nat)(d:Nat)(hd:Tm.get tm d=.one .nils)
  (h:AW P nt c ((d,.one (.sl mem.length 0 0 0))::tm) (mem++[⟨.grow,ty,0,esz,[]⟩]) Q):AW P nt c tm mem Q:=by
 intro ρ a w hr
 have hle:ρ.le (ρ.set mem.length 0 (none,0)):=Env.le_set (hr.mem.dom _ _ (Nat.le_refl _))
 obtain ⟨h1,h2⟩:=hr.nilRow ty esz mem rfl (fun s d hd=>⟨d,hd,rfl,rfl,fun _=>rfl⟩) (fun s d hd=>(hr.mem.blk s d hd).mono hle) ((d,.one (.sl mem.length 0 0 0))::tm) (fun i=>by
  rw [Tm.get_put]
  by_cases hi:i=d
  ·subst hi
   rw [if_pos rfl]
   have:=hr.tm i
   rw [hd] at this
   exact Vd2 this
  ·rw [if_neg hi];exact (hr.tm i).mono hle)
 refine wp_mono (h _ a w h1) ?_
 rintro e a' w' ⟨ρ2,tm2,mem2,hr2,hs2,hd,hq⟩
 exact ⟨ρ2,tm2,mem2,hr2,(h2 mem ρ w (Step.refl _ _ _)).trans hs2,hd,hq⟩
theorem AW.loopE {ι:Type}{c:Code}{Q:Exit->Tm->Ja1->Prop}(keep:List Nat)(m0:Ja1)(I:ι->Prop)(V:ι->Tm)(U:ι->List (Nat × Blk))(E:ι->Ja1)(μ:ι->Nat)(i:ι)(hi:I i)(hv:Keeps tm (V i))(hm:Ja2 m0 (U i)++E i=mem)
  (hE:∀ i j,I i->I j->μ j < μ i->(E i).length<=(E j).length)
  (h:∀ i,I i->AW P nt c (V i++Ja9 tm keep) (Ja2 m0 (U i)++E i) (Thn (fun tm' mem'=>∃ j,I j/\μ j < μ i/\Weak nt tm' mem' (V j++Ja9 tm keep) (Ja2 m0 (U j)++E j)) Q)):AW P nt (.loop c) tm mem Q:=by
 refine AW.weak (tm':=V i++Ja9 tm keep) (Keeps.append hv (Jv8 _ _)) ?_
 refine AW.loop (ι:={ i // I i }) (fun j=>V j.1++Ja9 tm keep) (fun j=>Ja2 m0 (U j.1)++E j.1) (fun j=>μ j.1) ⟨i,hi⟩ rfl hm fun ⟨j,hj⟩=>?_
 refine (h j hj).mono fun e tm' mem' hq=>?_
 cases e with
 | normal =>
  obtain ⟨k,hk,hlt,hw⟩:=hq
  exact ⟨⟨k,hk⟩,hlt,hw,by simp only [List.length_append,Jy7];have:=hE j k hj hk hlt;omega⟩
 | _=>exact hq
theorem AW.loopE0 {ι:Type}{c:Code}{Q:Exit->Tm->Ja1->Prop}(keep:List Nat)(I:ι->Prop)(V:ι->Tm)(U:ι->List (Nat × Blk))(E:ι->Ja1)(μ:ι->Nat)(i:ι)(hi:I i)(hv:Keeps tm (V i))(hm:Ja2 mem (U i)++E i=mem)
  (hE:∀ i j,I i->I j->μ j < μ i->(E i).length<=(E j).length)
  (h:∀ i,I i->AW P nt c (V i++Ja9 tm keep) (Ja2 mem (U i)++E i) (Thn (fun tm' mem'=>∃ j,I j/\μ j < μ i/\Weak nt tm' mem' (V j++Ja9 tm keep) (Ja2 mem (U j)++E j)) Q)):AW P nt (.loop c) tm mem Q :=
 AW.loopE keep mem I V U E μ i hi hv hm hE h
end
theorem Qd9 {α β:Type}{R:α->β->Prop}{t:α}{ts:List α}{l:List β}(h:All2 R (t::ts) l):∃ a xa,l=a::xa/\R t a/\All2 R ts xa:=by
 cases l with
 | nil=>exact h.elim
 | cons a xa=>exact ⟨a,xa,rfl,h.1,h.2⟩
theorem Vw7 {α β:Type}{R:α->β->Prop}{l:List β}(h:All2 R ([]:List α) l):l=[]:=by
 cases l with
 | nil=>rfl
 | cons a xa=>exact h.elim
theorem Yb8 (p1 p2 p3 p4 p5 p6:Prop):(p1/\p2/\p3/\p4/\p5/\p6)\/(p1/\p2/\p3/\p4/\p5/\¬p6)\/(p1/\p2/\p3/\p4/\¬p5/\True)\/(p1/\p2/\p3/\¬p4/\True/\True)\/(p1/\p2/\¬p3/\True/\True/\True)\/(p1/\¬p2/\True/\True/\True/\True)\/(¬p1/\True/\True/\True/\True/\True):=by
 rcases Classical.em p1 with h|h<;>rcases Qp2 p2 p3 p4 p5 p6 with h'|h'|h'|h'|h'|h'<;>simp [h,h']
theorem Yb7 (p1 p2 p3 p4 p5 p6 p7:Prop):(p1/\p2/\p3/\p4/\p5/\p6/\p7)\/(p1/\p2/\p3/\p4/\p5/\p6/\¬p7)\/(p1/\p2/\p3/\p4/\p5/\¬p6/\True)\/(p1/\p2/\p3/\p4/\¬p5/\True/\True)\/(p1/\p2/\p3/\¬p4/\True/\True/\True)\/(p1/\p2/\¬p3/\True/\True/\True/\True)\/(p1/\¬p2/\True/\True/\True/\True/\True)\/(¬p1/\True/\True/\True/\True/\True/\True):=by
 rcases Classical.em p1 with h|h<;>rcases Yb8 p2 p3 p4 p5 p6 p7 with h'|h'|h'|h'|h'|h'|h'<;>simp [h,h']
theorem Xb1 (p1 p2 p3 p4 p5 p6 p7 p8:Prop):(p1/\p2/\p3/\p4/\p5/\p6/\p7/\p8)\/(p1/\p2/\p3/\p4/\p5/\p6/\p7/\¬p8)\/(p1/\p2/\p3/\p4/\p5/\p6/\¬p7/\True)\/(p1/\p2/\p3/\p4/\p5/\¬p6/\True/\True)\/(p1/\p2/\p3/\p4/\¬p5/\True/\True/\True)\/(p1/\p2/\p3/\¬p4/\True/\True/\True/\True)\/(p1/\p2/\¬p3/\True/\True/\True/\True/\True)\/(p1/\¬p2/\True/\True/\True/\True/\True/\True)\/(¬p1/\True/\True/\True/\True/\True/\True/\True):=by
 rcases Classical.em p1 with h|h<;>rcases Yb7 p2 p3 p4 p5 p6 p7 p8 with h'|h'|h'|h'|h'|h'|h'|h'<;>simp [h,h']
def bef (σ:List Nat)(i j:Nat):Prop:=σ.idxOf i < σ.idxOf j
structure Lin (ops:Array Oper)(σ:List Nat):Prop where
 nd:σ.Nodup
 all:∀ i,i ∈ σ↔i<ops.size
 ord:∀ (j:Nat) (o:Oper),ops[j]?=some o->∀ e,e ∈ o.after->Region.binds .any e=true->bef σ e.on j
def Xq7 (ops:List Oper):Bool:=(List.range ops.length).all fun j=>match ops[j]? with
 | some o=>o.after.all fun e=>!Region.binds .any e || decide (e.on<j)
 | none=>true
theorem Qp5 {l:List Oper}(h:Xq7 l=true):∀ (j:Nat) (o:Oper),l.toArray[j]?=some o->∀ e,e ∈ o.after->Region.binds .any e=true->e.on<j:=by
 intro j o hj e he hb
 have hj':l[j]?=some o:=by simpa using hj
 have h1:=List.all_eq_true.1 h j (List.mem_range.2 (List.getElem?_eq_some_iff.1 hj').1)
 rw [hj'] at h1
 have h2:=Array.all_eq_true_iff_forall_mem.1 h1 e he
 simpa [hb] using h2
theorem Jq5 (i:Nat)(σ:List Nat)(k:Nat):(i::σ).idxOf k=if k=i then 0 else σ.idxOf k+1:=by
 rw [List.idxOf_cons]
 by_cases h:k=i
 ·subst h;simp
 ·have h1:(i ==k)=false:=by simpa using fun e=>h e.symm
  rw [if_neg h,h1];rfl
theorem Ju9:∀ {σ:List Nat} {i:Nat},i ∈ σ->σ[σ.idxOf i]?=some i
 | k::σ,i,h=>by
  rw [Jq5]
  by_cases e:i=k
  ·subst e;simp
  ·rw [if_neg e]
   rcases List.mem_cons.1 h with h|h
   ·exact absurd h e
   ·simpa using Ju9 h
theorem Qn5 (l:Array Bool)(i k:Nat)(d:Bool)(hi:i<l.size):(l.setIfInBounds i true).getD k d=if k=i then true else l.getD k d:=by
 simp only [Array.getD_eq_getD_getElem?]
 by_cases h:k=i
 ·subst h;simp [Array.getElem?_setIfInBounds_self_of_lt,hi]
 ·rw [if_neg h,Array.getElem?_setIfInBounds_ne (fun e=>h e.symm)]
def unl (n:Nat)(listed:Array Bool):Nat:=(List.range n).countP fun i=>!listed.getD i true
theorem Vt0 {ops:Array Oper}(hback:∀ (j:Nat) (o:Oper),ops[j]?=some o->∀ e,e ∈ o.after->Region.binds .any e=true->e.on<j) :
  ∀ (fuel t:Nat) (listed:Array Bool),listed.size=ops.size->unl ops.size listed<=fuel ->
   (∀ i,i ∈ Region.linearise.go .any ops fuel t listed []↔(i<ops.size/\listed.getD i true=false))/\(Region.linearise.go .any ops fuel t listed []).Nodup /\
   ∀ (j:Nat) (o:Oper),ops[j]?=some o->listed.getD j true=false->∀ e,e ∈ o.after->Region.binds .any e=true->listed.getD e.on false=true\/bef (Region.linearise.go .any ops fuel t listed []) e.on j:=by
 have hnone:∀ (listed:Array Bool),listed.size=ops.size->Region.ready .any ops listed=[]->∀ j,j<ops.size->listed.getD j true=true:=by
  intro listed hsz hr j
  induction j using Nat.strongRecOn with
  | _ j ih =>
   intro hj
   cases hl:listed.getD j true with
   | true=>rfl
   | false =>
    exfalso
    have hm:j ∈ Region.ready .any ops listed:=by
     simp only [Region.ready,List.mem_filter,List.mem_range]
     refine ⟨hj,?_⟩
     rw [hl,Array.getElem?_eq_getElem hj]
     simp only [Bool.not_false,Option.map_some,Option.getD_some,Bool.true_and]
     refine Array.all_eq_true_iff_forall_mem.2 fun e he=>?_
     cases hb:Region.binds .any e with
     | false=>rfl
     | true =>
      have hlt:=hback j _ (Array.getElem?_eq_getElem hj) e he hb
      have h1:=ih e.on hlt (by omega)
      simp only [Bool.not_true,Bool.false_or]
      have:e.on<listed.size:=by omega
      simpa [Array.getD_eq_getD_getElem?,this] using h1
    rw [hr] at hm
    cases hm
 intro fuel
 induction fuel with
 | zero =>
  intro t listed hsz hc
  have h0:∀ i,i<ops.size->listed.getD i true=true:=fun i hi=>by
   cases hl:listed.getD i true with
   | true=>rfl
   | false =>
    have:0<unl ops.size listed:=List.countP_pos_iff.2 ⟨i,List.mem_range.2 hi,by simp only [hl,Bool.not_false]⟩
    omega
  simp only [Region.linearise.go]
  refine ⟨fun i=>⟨fun h=>(by simp at h),fun h=>?_⟩,(by simp),fun j o hj hl e he hb=>?_⟩
  ·have:=h0 i h.1;rw [this] at h;cases h.2
  ·have:=h0 j (Array.getElem?_eq_some_iff.1 hj).1;rw [this] at hl;cases hl
 | succ fuel ih =>
  intro t listed hsz hc
  simp only [Region.linearise.go]
  change (∀ i,i ∈ (match (Region.ready .any ops listed)[t%(Region.ready .any ops listed).length]? with
   | some i=>Region.linearise.go .any ops fuel (t / (Region.ready .any ops listed).length) (listed.setIfInBounds i true) [i]
   | none=>[].reverse)↔(i<ops.size/\listed.getD i true=false))/\(match (Region.ready .any ops listed)[t%(Region.ready .any ops listed).length]? with
   | some i=>Region.linearise.go .any ops fuel (t / (Region.ready .any ops listed).length) (listed.setIfInBounds i true) [i]
   | none=>[].reverse).Nodup/\∀ (j:Nat) (o:Oper),ops[j]?=some o->listed.getD j true=false->∀ e,e ∈ o.after->Region.binds .any e=true->listed.getD e.on false=true\/bef (match (Region.ready .any ops listed)[t%(Region.ready .any ops listed).length]? with
   | some i=>Region.linearise.go .any ops fuel (t / (Region.ready .any ops listed).length) (listed.setIfInBounds i true) [i]
   | none=>[].reverse) e.on j
  cases hi:(Region.ready .any ops listed)[t%(Region.ready .any ops listed).length]? with
  | none =>
   have hnil:Region.ready .any ops listed=[]:=by
    cases hr:Region.ready .any ops listed with
    | nil=>rfl
    | cons x xs =>
     rw [hr] at hi
     have hlt:t%(x::xs).length<(x::xs).length:=Nat.mod_lt _ (by simp)
     simp at hi
     simp at hlt
     omega
   have h0:=hnone listed hsz hnil
   refine ⟨fun i=>⟨fun h=>(by simp at h),fun h=>?_⟩,(by simp),fun j o hj hl e he hb=>?_⟩
   ·have:=h0 i h.1;rw [this] at h;cases h.2
   ·have:=h0 j (Array.getElem?_eq_some_iff.1 hj).1;rw [this] at hl;cases hl
  | some i =>
   have hm:=List.mem_of_getElem? hi
   simp only [Region.ready,List.mem_filter,List.mem_range,Bool.and_eq_true,Bool.not_eq_true'] at hm
   obtain ⟨hil,hiu,hie⟩:=hm
   simp only []
   rw [linearise_go_acc,List.reverse_singleton,List.singleton_append]
   have hsz':(listed.setIfInBounds i true).size=ops.size:=by simpa using hsz
   have hget:∀ k d,(listed.setIfInBounds i true).getD k d=if k=i then true else listed.getD k d:=fun k d=>Qn5 _ _ _ _ (by omega)
   have hcnt:unl ops.size (listed.setIfInBounds i true)<unl ops.size listed:=by
    refine Kp3 (fun k _ hk=>?_) i (List.mem_range.2 hil) (by rw [hiu];rfl) (by rw [hget,if_pos rfl];rfl)
    rw [hget] at hk
    by_cases e:k=i
    ·rw [if_pos e] at hk;cases hk
    ·rw [if_neg e] at hk;exact hk
   obtain ⟨h1,h2,h3⟩:=ih (t / (Region.ready .any ops listed).length) (listed.setIfInBounds i true) hsz' (by omega)
   generalize Region.linearise.go .any ops fuel (t / (Region.ready .any ops listed).length) (listed.setIfInBounds i true) []=τ at *
   have hin:i ∉ τ:=fun h=>by
    have:=((h1 i).1 h).2
    rw [hget,if_pos rfl] at this;cases this
   refine ⟨fun k=>?_,List.nodup_cons.2 ⟨hin,h2⟩,fun j o hj hl e he hb=>?_⟩
   ·rw [List.mem_cons,h1 k,hget]
    by_cases e:k=i
    ·subst e;simp [hil,hiu]
    ·rw [if_neg e];simp [e]
   ·unfold bef
    rw [Jq5,Jq5]
    by_cases ej:j=i
    ·subst ej
     rw [hj] at hie
     simp only [Option.map_some,Option.getD_some] at hie
     have:=Array.all_eq_true_iff_forall_mem.1 hie e he
     simp only [hb,Bool.not_true,Bool.false_or] at this
     exact .inl this
    ·rw [if_neg ej]
     rcases h3 j o hj (by rw [hget,if_neg ej];exact hl) e he hb with h|h
     ·rw [hget] at h
      by_cases eo:e.on=i
      ·exact .inr (by rw [if_pos eo];omega)
      ·rw [if_neg eo] at h;exact .inl h
     ·right
      unfold bef at h
      split<;>omega
theorem Xy5 {ops:Array Oper}(hback:∀ (j:Nat) (o:Oper),ops[j]?=some o->∀ e,e ∈ o.after->Region.binds .any e=true->e.on<j)(t:Nat):Lin ops (Region.linearise .any ops t):=by
 have hrep:∀ k,(Array.replicate ops.size false).getD k false=false:=fun k=>by
  simp only [Array.getD_eq_getD_getElem?,Array.getElem?_replicate];split<;>rfl
 have hrep':∀ k,k<ops.size->(Array.replicate ops.size false).getD k true=false:=fun k hk=>by
  simp only [Array.getD_eq_getD_getElem?,Array.getElem?_replicate];rw [if_pos hk];rfl
 have h:=Vt0 hback ops.size t (Array.replicate ops.size false) (by simp) (by
  unfold unl
  have:=List.countP_le_length (p:=fun i=>!(Array.replicate ops.size false).getD i true) (l:=List.range ops.size)
  simpa using this)
 refine ⟨h.2.1,fun i=>?_,fun j o hj e he hb=>?_⟩
 ·rw [show Region.linearise .any ops t=Region.linearise.go .any ops ops.size t (Array.replicate ops.size false) [] from rfl,h.1 i]
  exact ⟨fun h=>h.1,fun h=>⟨h,hrep' i h⟩⟩
 ·rcases h.2.2 j o hj (hrep' j (Array.getElem?_eq_some_iff.1 hj).1) e he hb with h1|h1
  ·rw [hrep] at h1;cases h1
  ·exact h1
theorem Qv4 {P:Program}{ops:Array Oper}{Q:Exit->Act->World->Prop}{σ:List Nat}(hl:Lin ops σ) :
  ∀ (suf pre:List Nat) (fuel:Nat) (listed:Array Bool) (a:Act) (w:World),pre++suf=σ->listed.size=ops.size->(∀ k,k<ops.size->listed.getD k false=decide (k ∈ pre))->suf.length<=fuel ->
   wpAny P .any ops Q fuel listed a w->wpOps P ops Q suf a w:=by
 intro suf
 induction suf with
 | nil =>
  intro pre fuel listed a w hp hsz hli hf h
  have hr:Region.ready .any ops listed=[]:=by
   refine List.eq_nil_iff_forall_not_mem.2 fun i hi=>?_
   simp only [Region.ready,List.mem_filter,List.mem_range,Bool.and_eq_true,Bool.not_eq_true'] at hi
   have h1:=hli i hi.1
   have h2:i ∈ pre:=by rw [List.append_nil] at hp;rw [hp];exact (hl.all i).2 hi.1
   have h3:listed.getD i true=true:=by
    have:i<listed.size:=by have:=hi.1;omega
    simp only [decide_eq_true h2] at h1
    simpa [Array.getD_eq_getD_getElem?,this] using h1
   rw [h3] at hi
   cases hi.2.1
  cases fuel with
  | zero=>exact h.2
  | succ f=>exact h.1 hr
 | cons i suf ih =>
  intro pre fuel listed a w hp hsz hli hf h
  have hnd:=hl.nd
  rw [<-hp] at hnd
  have hil:i<ops.size:=(hl.all i).1 (by rw [<-hp];simp)
  have hip:i ∉ pre:=fun hh=>(List.nodup_append.1 hnd).2.2 i hh i List.mem_cons_self rfl
  have hidx:σ.idxOf i=pre.length:=by
   rw [<-hp,List.idxOf_append,if_neg hip];simp
  have hrd:i ∈ Region.ready .any ops listed:=by
   simp only [Region.ready,List.mem_filter,List.mem_range,Bool.and_eq_true,Bool.not_eq_true']
   refine ⟨hil,?_,?_⟩
   ·have h1:=hli i hil
    rw [decide_eq_false hip] at h1
    have:i<listed.size:=by omega
    simpa [Array.getD_eq_getD_getElem?,this] using h1
   ·rw [Array.getElem?_eq_getElem hil]
    simp only [Option.map_some,Option.getD_some]
    refine Array.all_eq_true_iff_forall_mem.2 fun e he=>?_
    cases hb:Region.binds .any e with
    | false=>rfl
    | true =>
     have h1:=hl.ord i _ (Array.getElem?_eq_getElem hil) e he hb
     unfold bef at h1
     rw [hidx] at h1
     have hmem:e.on ∈ pre:=by
      rw [<-hp,List.idxOf_append] at h1
      by_cases hm:e.on ∈ pre
      ·exact hm
      ·rw [if_neg hm] at h1;omega
     have hlt:e.on<ops.size:=(hl.all _).1 (by rw [<-hp];exact List.mem_append_left _ hmem)
     simp only [Bool.not_true,Bool.false_or]
     rw [hli _ hlt,decide_eq_true hmem]
  cases fuel with
  | zero=>simp at hf
  | succ f =>
   rw [wpOps_cons]
   refine wpOp_mono (fun a w=>ih (pre++[i]) f (listed.setIfInBounds i true) a w (by simpa using hp) (by simpa using hsz) (fun k hk=>?_) (by simpa using hf)) (h.2 i hrd)
   rw [Qn5 _ _ _ _ (by omega),hli k hk]
   by_cases e:k=i
   ·subst e;simp
   ·rw [if_neg e];simp [e]
def Xw1 (π:List Nat)(ext:List (Nat × Nat))(i:Nat)(af:Array Edge):Array Edge:=((af.toList.map fun e:Edge=>(⟨π.idxOf e.on,e.ground⟩:Edge))++((ext.filter fun p=>p.2 ==i).map fun p=>(⟨π.idxOf p.1,.data⟩:Edge))).toArray
def Qu9 (π:List Nat)(ext:List (Nat × Nat))(i:Nat)(o:Oper):Oper :=
 ⟨o.dst,o.op,o.type,o.pos,Xw1 π ext i o.after,o.guard.map fun g=>(π.idxOf g.1,g.2)⟩
def Jr1 (ops:List Oper)(π:List Nat)(ext:List (Nat × Nat)):List Oper:=π.map fun i=>Qu9 π ext i (ops[i]?.getD default)
def Kc8 (n:Nat)(π:List Nat):Bool:=decide (π.length=n)&&π.all (fun i=>decide (i<n))&&(List.range n).all (fun i=>π.contains i)&&decide π.Nodup
section
variable {ops:List Oper}{π:List Nat}{ext:List (Nat × Nat)}
theorem Jr9 {n:Nat}(h:Kc8 n π=true):π.length=n/\(∀ i,i ∈ π↔i<n)/\π.Nodup:=by
 simp only [Kc8,Bool.and_eq_true,decide_eq_true_eq,List.all_eq_true,List.mem_range,List.contains_iff_mem] at h
 obtain ⟨⟨⟨h1,h2⟩,h3⟩,h4⟩:=h
 exact ⟨h1,fun i=>⟨h2 i,h3 i⟩,h4⟩
theorem Qb0 {n:Nat}(hn:ops.length=n)(h:Kc8 n π=true){i:Nat}{o:Oper}(ho:ops[i]?=some o):(Jr1 ops π ext)[π.idxOf i]?=some (Qu9 π ext i o):=by
 obtain ⟨h1,h2,h3⟩:=Jr9 h
 have hi:i<n:=by rw [<-hn];exact (List.getElem?_eq_some_iff.1 ho).1
 have hm:=(h2 i).2 hi
 unfold Jr1
 rw [List.getElem?_map,Ju9 hm]
 simp [ho]
theorem Vf1 {n:Nat}(h:Kc8 n π=true){i j:Nat}(hi:i<n)(he:π.idxOf i=π.idxOf j):i=j:=by
 obtain ⟨h1,h2,h3⟩:=Jr9 h
 have hm:=(h2 i).2 hi
 have e1:=Ju9 hm
 have hj:j ∈ π:=by
  refine List.idxOf_lt_length_iff.1 ?_
  rw [<-he];exact List.idxOf_lt_length_iff.2 hm
 have e2:=Ju9 hj
 rw [<-he,e1] at e2
 injection e2
theorem Kd5 {n:Nat}(h:Kc8 n π=true):∀ (σ:List Nat),(∀ k,k ∈ σ->k<n)->∀ {i:Nat},i<n->(σ.map fun k=>π.idxOf k).idxOf (π.idxOf i)=σ.idxOf i
 | [],_,i,_=>rfl
 | k::σ,hs,i,hi=>by
  rw [List.map_cons,Jq5,Jq5,Kd5 h σ (fun k hk=>hs k (List.mem_cons_of_mem _ hk)) hi]
  by_cases e:i=k
  ·subst e;simp
  ·rw [if_neg e,if_neg fun he=>e (Vf1 h hi he)]
theorem Lin.perm {σ:List Nat}(hl:Lin ops.toArray σ)(h:Kc8 ops.length π=true)(he:∀ p,p ∈ ext->bef σ p.1 p.2/\p.1<ops.length)(hb:∀ (j:Nat) (o:Oper),ops.toArray[j]?=some o->∀ e,e ∈ o.after->Region.binds .any e=true->e.on<j) :
  Lin (Jr1 ops π ext).toArray (σ.map fun k=>π.idxOf k):=by
 obtain ⟨h1,h2,h3⟩:=Jr9 h
 have hlt:∀ k,k ∈ σ->k<ops.length:=fun k hk=>by simpa using (hl.all k).1 hk
 have hsz:(Jr1 ops π ext).toArray.size=ops.length:=by simp [Jr1,h1]
 have hmapnd:∀ τ:List Nat,(∀ k,k ∈ τ->k<ops.length)->τ.Nodup->(τ.map fun k=>π.idxOf k).Nodup:=by
  intro τ
  induction τ with
  | nil=>intro _ _;simp
  | cons k τ ih =>
   intro hk hnd
   obtain ⟨hk1,hk2⟩:=List.nodup_cons.1 hnd
   rw [List.map_cons]
   refine List.nodup_cons.2 ⟨fun hm=>?_,ih (fun k hk'=>hk k (List.mem_cons_of_mem _ hk')) hk2⟩
   obtain ⟨k',hk',e⟩:=List.mem_map.1 hm
   have:=Vf1 h (hk k' (List.mem_cons_of_mem _ hk')) e
   subst this;exact hk1 hk'
 refine ⟨hmapnd σ hlt hl.nd,fun i=>?_,fun j o hj e hee hbe=>?_⟩
 ·rw [hsz,List.mem_map]
  constructor
  ·rintro ⟨k,hk,rfl⟩
   rw [<-h1];exact List.idxOf_lt_length_iff.2 ((h2 k).2 (hlt k hk))
  ·intro hi
   have hi':i < π.length:=by omega
   refine ⟨π[i],(hl.all _).2 (by simpa using (h2 _).1 (List.getElem_mem hi')),h3.idxOf_getElem i hi'⟩
 ·have hj':(Jr1 ops π ext)[j]?=some o:=by simpa using hj
  unfold Jr1 at hj'
  rw [List.getElem?_map,Option.map_eq_some_iff] at hj'
  obtain ⟨i,hi,rfl⟩:=hj'
  have hil:i<ops.length:=(h2 i).1 (List.mem_of_getElem? hi)
  have hji:π.idxOf i=j:=by
   obtain ⟨hjl,e⟩:=List.getElem?_eq_some_iff.1 hi
   rw [<-e];exact h3.idxOf_getElem j hjl
  have ho:ops[i]?=some (ops[i]'hil):=List.getElem?_eq_getElem hil
  rw [ho] at hee
  simp only [Option.getD_some,Qu9,Xw1,List.mem_toArray,List.mem_append,List.mem_map,List.mem_filter] at hee
  unfold bef
  rw [<-hji,Kd5 h σ hlt hil]
  rcases hee with ⟨e0,he0,rfl⟩|⟨p,⟨hp,hpi⟩,rfl⟩
  ·have hb0:Region.binds .any e0=true:=by simpa [Region.binds] using hbe
   have hlt0:=hb i _ (by rw [List.getElem?_toArray];exact ho) e0 (by simpa using he0) hb0
   simp only
   rw [Kd5 h σ hlt (by omega)]
   exact hl.ord i _ (by rw [List.getElem?_toArray];exact ho) e0 (by simpa using he0) hb0
  ·have hpe:p.2=i:=by simpa using hpi
   simp only
   rw [Kd5 h σ hlt (he p hp).2,<-hpe]
   exact (he p hp).1
theorem Qv3 {P:Program}{Q:Exit->Act->World->Prop}(h:Kc8 ops.length π=true){i:Nat}(hi:i<ops.length){K:Act->World->Prop}{a:Act}{w:World}
  (hw:wpOp P (Jr1 ops π ext).toArray Q (π.idxOf i) K a w):wpOp P ops.toArray Q i K a w:=by
 obtain ⟨h1,h2,h3⟩:=Jr9 h
 have ho:ops[i]?=some (ops[i]'hi):=List.getElem?_eq_getElem hi
 generalize ops[i]'hi=o at ho
 have hy:∀ g,yielded (Jr1 ops π ext).toArray a.tmps (π.idxOf g)=yielded ops.toArray a.tmps g:=by
  intro g
  unfold yielded
  rcases Nat.lt_or_ge g ops.length with hg|hg
  ·have hg':ops[g]?=some (ops[g]'hg):=List.getElem?_eq_getElem hg
   simp only [List.getElem?_toArray,Qb0 rfl h hg',hg',Qu9,Option.bind_some]
  ·have e1:ops[g]?=none:=List.getElem?_eq_none hg
   have e2:(Jr1 ops π ext)[π.idxOf g]?=none:=List.getElem?_eq_none (by
    have:g ∉ π:=fun hm=>by have:=(h2 g).1 hm;omega
    rw [List.idxOf_eq_length this];simp [Jr1])
   simp only [List.getElem?_toArray,e1,e2]
 have hwant:Region.wanted (Qu9 π ext i o) (yielded (Jr1 ops π ext).toArray a.tmps)=Region.wanted o (yielded ops.toArray a.tmps):=by
  simp only [Region.wanted,Qu9]
  cases o.guard with
  | none=>rfl
  | some g=>simp only [Option.map_some,hy]
 unfold wpOp at hw ⊢
 simp only [List.getElem?_toArray,Qb0 rfl h ho,hwant] at hw
 simp only [List.getElem?_toArray,ho]
 exact hw
theorem Kr4 {P:Program}{Q:Exit->Act->World->Prop}(h:Kc8 ops.length π=true):∀ (σ:List Nat),(∀ k,k ∈ σ->k<ops.length)->∀ (a:Act) (w:World),wpOps P (Jr1 ops π ext).toArray Q (σ.map fun k=>π.idxOf k) a w->wpOps P ops.toArray Q σ a w
 | [],_,a,w,hw=>hw
 | i::σ,hs,a,w,hw=>by
  rw [List.map_cons,wpOps_cons] at hw
  rw [wpOps_cons]
  exact Qv3 h (hs i List.mem_cons_self) (wpOp_mono (fun a w=>Kr4 h σ (fun k hk=>hs k (List.mem_cons_of_mem _ hk)) a w) hw)
end
section
variable {P:Program}{nt:Nat}{tm:Tm}{mem:Ja1}
def DX (P:Program)(nt:Nat)(ops:List Oper)(ext:List (Nat × Nat))(tm:Tm)(mem:Ja1)(K:Tm->Ja1->Prop):Prop :=
 ∀ ρ a w,Rep ρ nt tm mem a w->∀ QQ:Exit->Act->World->Prop,(∀ ρ' tm' mem' a' w',Rep ρ' nt tm' mem' a' w'->Step mem ρ w mem' ρ' w'->a'.defers=a.defers->K tm' mem'->QQ .normal a' w') ->
  ∀ σ,Lin ops.toArray σ->(∀ p,p ∈ ext->bef σ p.1 p.2)->wpOps P ops.toArray QQ σ a w
theorem AW.drawX {id:Nat}{l:List Oper}{Q:Exit->Tm->Ja1->Prop}(hf:P.follows .mixedOrders=true)(hb:Xq7 l=true)(h:DX P nt l [] tm mem (Q .normal)):AW P nt (.region id l.toArray true) tm mem Q:=by
 intro ρ a w hr
 refine wp_region_draw fun t=>?_
 simp only [Region.schedule,hf,Bool.true_or,if_true]
 exact h ρ a _ hr.drew _ (fun ρ' tm' mem' a' w' r s d k=>⟨ρ',tm',mem',r,⟨s.os,s.tape,s.output,s.size,s.len,s.ext,s.kind,s.ro,s.frame,s.fresh⟩,d,k⟩) _ (Xy5 (Qp5 hb) t) (fun p hp=>by cases hp)
theorem DX.split {l:List Oper}{ext:List (Nat × Nat)}{K:Tm->Ja1->Prop}(i j:Nat)(hn:i≠j/\i<l.length/\j<l.length)(h1:DX P nt l ((i,j)::ext) tm mem K)(h2:DX P nt l ((j,i)::ext) tm mem K):DX P nt l ext tm mem K:=by
 intro ρ a w hr QQ hQ σ hl he
 obtain ⟨hne,hi,hj⟩:=hn
 have hmi:i ∈ σ:=(hl.all i).2 (by simpa using hi)
 have hmj:j ∈ σ:=(hl.all j).2 (by simpa using hj)
 have hneq:σ.idxOf i≠σ.idxOf j:=fun e=>by
  have e1:=Ju9 hmi
  have e2:=Ju9 hmj
  rw [e,e2] at e1
  injection e1 with e1
  exact hne e1.symm
 rcases Nat.lt_or_ge (σ.idxOf i) (σ.idxOf j) with h|h
 ·exact h1 ρ a w hr QQ hQ σ hl fun p hp=>by
   rcases List.mem_cons.1 hp with rfl|hp
   ·exact h
   ·exact he p hp
 ·exact h2 ρ a w hr QQ hQ σ hl fun p hp=>by
   rcases List.mem_cons.1 hp with rfl|hp
   ·unfold bef;simp only;omega
   ·exact he p hp
def dxOk (nt:Nat)(l:List Oper)(π:List Nat)(ext:List (Nat × Nat))(l':List Oper)(pl:List Plan):Bool :=
 Kc8 l.length π&&Xq7 l&&ext.all (fun p=>decide (p.1<l.length))&&decide (pl.length=l'.length)&&Jx6 nt (l'.zip pl)
theorem DX.run {l l':List Oper}{ext:List (Nat × Nat)}{K:Tm->Ja1->Prop}(π:List Nat)(pl:List Plan)(hl':Jr1 l π ext=l')(hok:dxOk nt l π ext l' pl=true)
  (h:AOpsD P l'.toArray (l'.zip pl) tm mem [mem] [] K):DX P nt l ext tm mem K:=by
 intro ρ a w hr QQ hQ σ hl he
 subst hl'
 simp only [dxOk,Bool.and_eq_true,List.all_eq_true,decide_eq_true_eq] at hok
 obtain ⟨⟨⟨⟨h1,h2⟩,h3⟩,h4⟩,h5⟩:=hok
 have hlt:∀ k,k ∈ σ->k<l.length:=fun k hk=>by simpa using (hl.all k).1 hk
 refine Kr4 (ext:=ext) h1 σ hlt a w ?_
 have hlin:=hl.perm h1 (fun p hp=>⟨he p hp,h3 p hp⟩) (Qp5 h2)
 have he':(Jr1 l π ext).toArray=Jh7 ((Jr1 l π ext).zip pl):=by
  unfold Jh7
  rw [show (fun x:Oper × Plan=>x.1)=Prod.fst from rfl,List.map_fst_zip (by omega)]
 have hs:=Kp8 (P:=P) h5 (by rw [he'] at h;exact h) hr (Q:=QQ) hQ
 rw [<-he'] at hs
 refine Qv4 hlin (σ.map fun k=>π.idxOf k) [] _ _ a w rfl (by simp) (fun k hk=>?_) ?_ hs
 ·simp only [Array.getD_eq_getD_getElem?,Array.getElem?_replicate]
  rw [if_pos hk];rfl
 ·have hperm:∀ (n:Nat) (τ:List Nat),τ.Nodup->(∀ k,k ∈ τ->k<n)->τ.length<=n:=by
   intro n
   induction n with
   | zero=>intro τ _ hk;cases τ with
    | nil=>simp
    | cons x τ=>exact absurd (hk x List.mem_cons_self) (by omega)
   | succ n ih =>
    intro τ hnd hk
    have h6:(τ.erase n).length<=n:=ih _ (hnd.erase n) fun k hk'=>by
     have hkm:=List.mem_of_mem_erase hk'
     have:=hk k hkm
     have:k≠n:=fun e=>by subst e;exact (List.Nodup.not_mem_erase hnd) hk'
     omega
    have:=List.length_erase (a:=n) (l:=τ)
    split at this<;>omega
  exact hperm _ _ hlin.nd fun k hk=>(hlin.all k).1 hk
end
section
variable {P:Program}{nt:Nat}{tm:Tm}{mem:Ja1}{Q:Exit->Tm->Ja1->Prop}
end
section
variable (P:Program)(call:Kt2)(pls:Nat->List Plan)(nt L:Nat)(jump:Code->Tm->Ja1->Option (Exit × Tm × Ja1))
end
section
variable {P:Program}{call:Kt2}{pls:Nat->List Plan}{nt L:Nat}
end
variable {P:Program}{nt:Nat}{tm:Tm}{mem:Ja1}
theorem All2.take_left {α β:Type}{R:α->β->Prop}:∀ {xa:List α} {bs:List β} (k:Nat),All2 R xa bs->∃ xs sp,bs=xs++sp/\All2 R (xa.take k) xs
 | xa,bs,0,_=>⟨[],bs,rfl,by rw [List.take_zero];trivial⟩
 | [],[],_+1,_=>⟨[],[],rfl,trivial⟩
 | a::xa,b::bs,k+1,h=>by
  obtain ⟨xs,sp,e,h2⟩:=All2.take_left k h.2
  exact ⟨b::xs,sp,by rw [e];rfl,h.1,h2⟩
theorem BlkR.cut {ρ:Env}{w:World}{r:Nat}{b:Blk}(hb:BlkR ρ w r b)(hk:b.kind=.grow)(k:Nat):BlkR ρ w r { b with cells:=b.cells.take k }:=by
 obtain ⟨kind,ty,ver,esz,cells⟩:=b
 simp only at hk
 subst hk
 rcases hb with ⟨h1,h2⟩|⟨n,c,cap,xs,sp,h1,h2,h3,h4,h5,h6⟩
 ·simp only at h1;subst h1;exact .inl ⟨by simp,h2⟩
 ·obtain ⟨ys,tp,e,h7⟩:=All2.take_left k h6
  exact .inr ⟨n,c,cap,ys,tp++sp,h1,h2,h3,h4,by rw [h5,e,List.append_assoc],h7⟩
theorem AW.cut {c:Code}{Q:Exit->Tm->Ja1->Prop}(r k:Nat){b:Blk}(hb:mem[r]?=some b)(hk:b.kind=.grow)
  (h:AW P nt c tm (mem.set r { b with cells:=b.cells.take k }) Q):AW P nt c tm mem Q:=by
 intro ρ a w hr
 have hrl:=(List.getElem?_eq_some_iff.1 hb).1
 have hgt:∀ {s:Nat} {d:Blk},(mem.set r { b with cells:=b.cells.take k })[s]?=some d->(s≠r/\mem[s]?=some d)\/(s=r/\d={ b with cells:=b.cells.take k }):=by
  intro s d hd
  by_cases hs:s=r
  ·subst hs;rw [List.getElem?_set_self hrl] at hd;injection hd with hd;exact .inr ⟨rfl,hd.symm⟩
  ·rw [List.getElem?_set_ne (fun e=>hs e.symm)] at hd;exact .inl ⟨hs,hd⟩
 have hold:∀ {s:Nat} {d:Blk},(mem.set r { b with cells:=b.cells.take k })[s]?=some d->∃ d0,mem[s]?=some d0/\d0.kind=d.kind/\d0.ver=d.ver/\(d.kind=.ro->d0=d):=by
  intro s d hd
  rcases hgt hd with ⟨_,h1⟩|⟨e1,e2⟩
  ·exact ⟨d,h1,rfl,rfl,fun _=>rfl⟩
  ·subst e1;subst e2;exact ⟨b,hb,rfl,rfl,fun h=>by rw [hk] at h;cases h⟩
 have hm:RepM ρ (mem.set r { b with cells:=b.cells.take k }) w:=by
  refine ⟨fun s d hd=>?_,fun s v hs=>hr.mem.dom s v (by simpa using hs),fun s d v hd hv=>?_,fun s t d e hd he hne hkd hke x y i j hx hy=>?_⟩
  ·rcases hgt hd with ⟨_,h1⟩|⟨e1,e2⟩
   ·exact hr.mem.blk s d h1
   ·subst e1;subst e2;exact (hr.mem.blk s b hb).cut hk k
  ·obtain ⟨d0,h1,_,h3,_⟩:=hold hd
   exact hr.mem.domv s d0 v h1 (by omega)
  ·obtain ⟨d0,h1,h2,h3,_⟩:=hold hd
   obtain ⟨e0,g1,g2,g3,g4⟩:=hold he
   refine hr.mem.sep s t d0 e0 h1 g1 hne (by rw [h2];exact hkd) (fun hro=>?_) x y i j (by rw [h3];exact hx) (by rw [g3];exact hy)
   rw [g4 (by rw [<-g2];exact hro)];exact hke (by rw [<-g2];exact hro)
 refine wp_mono (h ρ a w ⟨hr.size,hr.tm,hm⟩) ?_
 rintro e a' w' ⟨ρ2,tm2,mem2,hr2,hs2,hd,hq⟩
 refine ⟨ρ2,tm2,mem2,hr2,?_,hd,hq⟩
 refine ⟨hs2.os,hs2.tape,hs2.output,hs2.size,by have:=hs2.len;simpa using this,fun s hs v x hx=>hs2.ext s (by simpa using hs) v x hx,fun s d d' h1 h2=>?_,fun s d' h1 h2=>?_,fun n hn hne=>?_,fun s d' x i h1 h2 h3=>?_⟩
 ·by_cases hs:s=r
  ·subst hs
   rw [hb] at h1;injection h1 with h1;subst h1
   exact hs2.kind s { b with cells:=b.cells.take k } d' (List.getElem?_set_self hrl) h2
  ·exact hs2.kind s d d' (by rw [List.getElem?_set_ne (fun e=>hs e.symm)];exact h1) h2
 ·have:=hs2.ro s d' h1 h2
  rcases hgt this with ⟨_,h3⟩|⟨e1,e2⟩
  ·exact h3
  ·subst e2;rw [hk] at h2;cases h2
 ·refine hs2.frame n hn fun s d x i h1 h2 h3=>?_
  obtain ⟨d0,g1,g2,g3,_⟩:=hold h1
  exact hne s d0 x i g1 (by rw [g2];exact h2) (by rw [g3];exact h3)
 ·rcases hs2.fresh s d' x i h1 h2 h3 with h|⟨t,d,y,l,h1,h2,h3,h4⟩
  ·exact .inl h
  ·obtain ⟨d0,g1,g2,g3,_⟩:=hold h1
   exact .inr ⟨t,d0,y,l,g1,by rw [g2];exact h2,by rw [g3];exact h3,h4⟩
variable {P:Program}
variable {nt:Nat}{tm:Tm}{mem:Ja1}
end Go.Eng
set_option maxRecDepth 100000
set_option maxHeartbeats 4000000
namespace Go.Proofs.YtaannomfigammaaGreat
open Go Go.Eng
def Ja3 (n:Int):Int:=if 2147483648<n then 2147483648 else if n < -2147483648 then -2147483648 else n
theorem Jc6 (n:Int):-2147483648<=Ja3 n/\Ja3 n<=2147483648:=by unfold Ja3;split<;>(try split)<;>omega
theorem Jb4 {n:Int}(h:-2147483648<=n/\n<=2147483648):Ja3 n=n:=by unfold Ja3;split<;>(try split)<;>omega
theorem wi {x:Int}(h:-9223372036854775808<=x/\x<=9223372036854775807):IntKind.i64.wrap x=x:=by rw [IntKind.wrap_i64];omega
theorem Qs1 {x y A B:Int}(hx:-A<=x/\x<=A)(hy:-B<=y/\y<=B):-(A*B)<=x*y/\x*y<=A*B:=by
 have h1:x.natAbs<=A.toNat:=by omega
 have h2:y.natAbs<=B.toNat:=by omega
 have h3:=Nat.mul_le_mul h1 h2
 rw [<-Int.natAbs_mul] at h3
 have h4:((A.toNat*B.toNat:Nat):Int)=A*B:=by
  rw [Int.natCast_mul,Int.toNat_of_nonneg (by omega),Int.toNat_of_nonneg (by omega)]
 omega
theorem Qn1 (a b:Int):-4611686018427387904<=Ja3 a*Ja3 b/\Ja3 a*Ja3 b<=4611686018427387904:=Qs1 (A:=2147483648) (B:=2147483648) (by have:=Jc6 a;omega) (by have:=Jc6 b;omega)
theorem Jw1 (n:Int)(m:Ja1):Ctr Tryz.prog 190 [.one (.int .i64 n)] m (.one (.int .i64 (Ja3 n))) m:=by
 refine Ctr.en Tryz.func190 [.tmp 2] 10 fun hwf Q hQ=>?_
 refine AW.w 4 Tru Tru fun K J0=>?_
 refine AW.cond rfl (fun h3=>?_) (fun h3=>?_)
 ·have hr:Ja3 n=2147483648:=by have:=of_decide_eq_true h3;unfold Ja3;rw [if_pos this]
  exact AW.f Tru Tru hr
 refine AW.c 1 Tru Tru ?_
 refine AW.cond rfl (fun h6=>?_) (fun h6=>?_)
 ·have hr:Ja3 n=-2147483648:=by have h0:=of_decide_eq_false h3;have:=of_decide_eq_true h6;unfold Ja3;rw [if_neg h0,if_pos this]
  exact AW.f Tru Tru hr
 have hr:Ja3 n=n:=by have h0:=of_decide_eq_false h3;have:=of_decide_eq_false h6;unfold Ja3;rw [if_neg h0,if_neg this]
 exact AW.f Tru Tru hr
theorem Vf0 (n:Int)(m:Ja1):Ctr Tryz.prog 191 [.one (.int .i64 n)] m (.one (.int .i64 (Ja3 n))) m:=by
 have hw:IntKind.i64.wrap (Ja3 n)=Ja3 n:=wi (by have:=Jc6 n;omega)
 exact Ctr.f Tryz.func191 [.tmp 2] 5 hw (Jw1 n)
theorem Ji8 (n:Int)(m:Ja1):Ctr Tryz.prog 158 [.one (.int .i64 n)] m (.one (.int .i64 (Ja3 n))) m:=by
 refine Ctr.en Tryz.func158 [.tmp 2] 8 fun hwf Q hQ=>?_
 refine AW.w 3 Tru Tru fun K J0=>?_
 refine AW.cond rfl (fun h4=>?_) (fun h4=>?_)
 ·have hr:Ja3 n=2147483648:=by have:=of_decide_eq_true h4;unfold Ja3;rw [if_pos this]
  exact AW.f Tru Tru hr
 refine AW.w 4 Tru Tru fun K J0=>?_
 refine AW.cond rfl (fun h6=>?_) (fun h6=>?_)
 ·have hr:Ja3 n=-2147483648:=by have h0:=of_decide_eq_false h4;have:=of_decide_eq_true h6;unfold Ja3;rw [if_neg h0,if_pos this]
  exact AW.f Tru Tru hr
 have hr:Ja3 n=n:=by have h0:=of_decide_eq_false h4;have:=of_decide_eq_false h6;unfold Ja3;rw [if_neg h0,if_neg this]
 exact AW.f Tru Tru hr
theorem Kt5 {n d:Int}(hd:0<d):(n.tmod d=n%d/\(0<=n\/n%d=0))\/(n<0/\¬n%d=0/\n.tmod d=n%d - d):=by
 rcases Classical.em (n<0) with h|h
 ·have e:n.tmod d=-((-n)%d):=by rw [<-Int.tmod_eq_emod_of_nonneg (by omega),Int.neg_tmod,Int.neg_neg]
  rw [e,Int.neg_emod]
  split
  ·rename_i hn
   have:=Int.emod_eq_zero_of_dvd hn
   exact .inl ⟨by omega,.inr this⟩
  rename_i hn
  have h0:¬n%d=0:=fun h0=>hn (Int.dvd_of_emod_eq_zero h0)
  have:(d.natAbs:Int)=d:=by omega
  exact .inr ⟨h,h0,by omega⟩
 exact .inl ⟨Int.tmod_eq_emod_of_nonneg (by omega),.inl (by omega)⟩
theorem Vv4 {n d:Int}(hd:0<d){r:Int}(hr:r=n%d):(n - r).tdiv d=n / d:=by
 subst hr
 have h1:=Int.emod_add_mul_ediv n d
 have e:n - n%d=d*(n / d):=by omega
 rw [e,Int.mul_tdiv_cancel_left _ (by omega)]
theorem Kp0 {n d:Int}(hd:0<d){A:Int}(h:-A<=n/\n<=A):-A<=n / d/\n / d<=A:=by
 have h1:=Int.emod_add_mul_ediv n d
 have h2:=Int.emod_nonneg n (b:=d) (by omega)
 have h3:=Int.emod_lt_of_pos n hd
 constructor
 ·exact Int.le_ediv_of_mul_le hd (by have:=Int.mul_le_mul_of_nonneg_left (show (1:Int)<=d by omega) (show 0<=A by omega);have e:-A*d=-(A*d):=Int.neg_mul _ _;omega)
 exact Int.ediv_le_of_le_mul hd (by have:=Int.mul_le_mul_of_nonneg_left (show (1:Int)<=d by omega) (show 0<=A by omega);omega)
theorem Jp5 (n d:Int)(m:Ja1)(hd:0<d)(hb:-4611686018427387904<=n/\n<=4611686018427387904)(hb2:d<=4611686018427387904):Ctr Tryz.prog 160 [.one (.int .i64 n),.one (.int .i64 d)] m (.one (.int .i64 (n / d))) m:=by
 refine Ctr.en Tryz.func160 [.tmp 4] 19 fun hwf Q hQ=>?_
 have hm:=Kt5 (n:=n) hd
 have h2:=Int.emod_nonneg n (b:=d) (by omega)
 have h3:=Int.emod_lt_of_pos n hd
 have hd0:¬d=0:=by omega
 have hdiv:=@Vv4 n d hd
 have hqb:=Kp0 (n:=n) hd hb
 have hwq:IntKind.i64.wrap (n / d)=n / d:=wi (by omega)
 generalize htm:n.tmod d=r at *
 have hq1:(n - n%d).tdiv d=n / d:=hdiv rfl
 have hw0:IntKind.i64.wrap (n - n%d)=n - n%d:=wi (by omega)
 have U1:=ca3 htm hd0 hwq
 refine AW.w 4 U1 Tru fun K J0=>?_
 refine AW.cond rfl (fun h10=>?_) (fun h10=>?_)
 ·have hneg:=of_decide_eq_true h10
  have er:r=n%d - d:=by omega
  have hw1:IntKind.i64.wrap (r+d)=n%d:=by rw [wi (by omega)];omega
  have U2:=ca4 U1 hw1 hw0 hq1
  exact AW.f U2 Tru
 have hneg:=of_decide_eq_false h10
 have er:r=n%d:=by omega
 subst er
 refine AW.w 2 Tru Tru ?_
 have U3:=ca3 U1 hw0 hq1
 exact AW.f U3 Tru
def Jj3 (n d:Int):Int:=if 0<d then n / d else (-n) / (-d)
theorem Qc2 {n d:Int}(hd:0<d):n.tdiv d=(if n.tmod d≠0/\n<0 then n / d+1 else n / d):=by
 have h0:=Int.tmod_add_mul_tdiv n d
 have h1:=Int.emod_add_mul_ediv n d
 have hm:=Kt5 (n:=n) hd
 have h2:=Int.emod_nonneg n (b:=d) (by omega)
 have h3:=Int.emod_lt_of_pos n hd
 have key:∀ a b:Int,d*a=d*b->a=b:=fun a b h=>Int.eq_of_mul_eq_mul_left (by omega) h
 split
 ·rename_i hc
  refine key _ _ ?_
  rw [Int.mul_add,Int.mul_one]
  omega
 rename_i hc
 refine key _ _ ?_
 omega
theorem Qn9 {n d:Int}(hd:d≠0):Jj3 n d=(if n.tmod d≠0/\(decide (n<0) !=decide (d<0))=true then n.tdiv d - 1 else n.tdiv d):=by
 unfold Jj3
 rcases Classical.em (0<d) with h|h
 ·rw [if_pos h]
  have h1:=Qc2 (n:=n) h
  have h2:decide (d<0)=false:=decide_eq_false (by omega)
  rw [h2]
  rcases Classical.em (n.tmod d=0) with h5|h5
  ·rw [if_neg (fun hc=>hc.1 h5),h1,if_neg (fun hc=>hc.1 h5)]
  rcases Classical.em (n<0) with h4|h4
  ·rw [if_pos ⟨h5,by rw [decide_eq_true h4];rfl⟩,h1,if_pos ⟨h5,h4⟩];omega
  rw [if_neg (by rw [decide_eq_false h4];exact fun hc=>by cases hc.2),h1,if_neg (fun hc=>h4 hc.2)]
 rw [if_neg h]
 have h0:0 < -d:=by omega
 have h1:=Qc2 (n:=-n) h0
 have h2:decide (d<0)=true:=decide_eq_true (by omega)
 have e1:(-n).tdiv (-d)=n.tdiv d:=by rw [Int.neg_tdiv,Int.tdiv_neg,Int.neg_neg]
 have e2:(-n).tmod (-d)=-(n.tmod d):=by rw [Int.neg_tmod,Int.tmod_neg]
 rw [e1,e2] at h1
 rw [h2]
 rcases Classical.em (n.tmod d=0) with h5|h5
 ·rw [if_neg (fun hc=>hc.1 h5),h1,if_neg (fun hc=>hc.1 (by omega))]
 have h6:¬n=0:=fun e=>by subst e;simp at h5
 rcases Classical.em (n<0) with h4|h4
 ·rw [if_neg (by rw [decide_eq_true h4];exact fun hc=>by cases hc.2),h1,if_neg (by omega)]
 rw [if_pos ⟨h5,by rw [decide_eq_false h4];rfl⟩,h1,if_pos ⟨by omega,by omega⟩];omega
theorem Vg5 {n d:Int}(hd:d≠0){A:Int}(h:-A<=n/\n<=A):-A<=Jj3 n d/\Jj3 n d<=A:=by
 unfold Jj3;split
 ·rename_i hp;exact Kp0 hp h
 exact Kp0 (by omega) (by omega)
theorem Vw6 (x:Int)(i:Nat)(hi:i<=62):bits .and .i64 x ((2:Int) ^ i - 1)=x%(2:Int) ^ i:=by
 have hp:(2:Nat) ^ i<=2 ^ 62:=Nat.pow_le_pow_right (by decide) hi
 have hp0:0<(2:Nat) ^ i:=Nat.pos_of_ne_zero (by simp)
 have hc:((2:Int) ^ i)=((2 ^ i:Nat):Int):=by simp
 have e1:(BitVec.ofInt 64 ((2:Int) ^ i - 1)).toNat=2 ^ i - 1:=by
  rw [BitVec.toNat_ofInt,hc]
  have:(((2 ^ i:Nat):Int) - 1)%((2 ^ 64:Nat):Int)=((2 ^ i:Nat):Int) - 1:=Int.emod_eq_of_lt (by omega) (by omega)
  rw [this];omega
 have e0:bits .and .i64 x ((2:Int) ^ i - 1)=IntKind.i64.wrap (((BitVec.ofInt 64 x &&& BitVec.ofInt 64 ((2:Int) ^ i - 1)).toNat:Nat):Int):=rfl
 rw [e0,BitVec.toNat_and,e1,Nat.and_two_pow_sub_one_eq_mod,BitVec.toNat_ofInt]
 have h1:(((x%((2 ^ 64:Nat):Int)).toNat%2 ^ i:Nat):Int)=x%(2:Int) ^ i:=by
  rw [Int.natCast_emod,Int.toNat_of_nonneg (Int.emod_nonneg _ (by simp)),hc]
  refine Int.emod_emod_of_dvd _ ?_
  exact_mod_cast Nat.pow_dvd_pow 2 (show i<=64 by omega)
 rw [h1]
 have h2:=Int.emod_nonneg x (b:=(2:Int) ^ i) (by omega)
 have h3:=Int.emod_lt_of_pos x (b:=(2:Int) ^ i) (by omega)
 exact wi (by omega)
theorem Vw5 (x:Int):bits .and .i64 x 65535=x%65536:=Vw6 x 16 (by decide)
theorem Xn9 (n d:Int)(m:Ja1)(hd:d≠0)(hb:-4611686018427387904<=n/\n<=4611686018427387904)(h0:(n.tmod d !=0)=false):Ctr Tryz.prog 192 [.one (.int .i64 n),.one (.int .i64 d)] m (.one (.int .i64 (Jj3 n d))) m:=by
 have he:=Qn9 (n:=n) hd
 have hfb:=Vg5 (n:=n) hd hb
 have hw1:IntKind.i64.wrap (Jj3 n d)=Jj3 n d:=wi (by omega)
 have hw0:IntKind.i64.wrap (n.tdiv d)=n.tdiv d:=by
   refine wi ?_
   rw [he] at hfb
   split at hfb<;>omega
 have hr:Jj3 n d=n.tdiv d:=by
   rw [if_neg (fun hc=>hc.1 (by simpa using h0))] at he;exact he
 have U1:=ca3 hd hw0 h0
 exact Ctr.f Tryz.func192 [.tmp 4] 23 U1 Tru hr
theorem Vt6 (n d:Int)(m:Ja1)(hd:d≠0)(hb:-4611686018427387904<=n/\n<=4611686018427387904)(h0:(n.tmod d !=0)=true):Ctr Tryz.prog 192 [.one (.int .i64 n),.one (.int .i64 d)] m (.one (.int .i64 (Jj3 n d))) m:=by
 refine Ctr.en Tryz.func192 [.tmp 4] 23 fun hwf Q hQ=>?_
 have he:=Qn9 (n:=n) hd
 have hfb:=Vg5 (n:=n) hd hb
 have hw1:IntKind.i64.wrap (Jj3 n d)=Jj3 n d:=wi (by omega)
 have hw0:IntKind.i64.wrap (n.tdiv d)=n.tdiv d:=by
   refine wi ?_
   rw [he] at hfb
   split at hfb<;>omega
 have hnz:n.tmod d≠0:=by simpa using h0
 have U2:=ca3 hd hw0 h0
 refine AW.w 4 U2 Tru fun K J0=>?_
 refine AW.cond rfl (fun h19=>?_) (fun h19=>?_)
 ·have hr:IntKind.i64.wrap (n.tdiv d - 1)=Jj3 n d:=by
    rw [if_pos ⟨hnz,h19⟩] at he;rw [<-he];exact hw1
  have U3:=ca2 U2 hr
  exact AW.f U3 Tru hr
 have hr:Jj3 n d=n.tdiv d:=by
   rw [if_neg (fun hc=>by have h2:=hc.2;unfold bne at h2;rw [h19] at h2;cases h2)] at he;exact he
 exact AW.f U2 Tru hr
theorem Xo0 (n d:Int)(m:Ja1)(hd:d≠0)(hb:-4611686018427387904<=n/\n<=4611686018427387904):Ctr Tryz.prog 192 [.one (.int .i64 n),.one (.int .i64 d)] m (.one (.int .i64 (Jj3 n d))) m:=by
 cases h0:(n.tmod d !=0)
 ·exact Xn9 n d m hd hb h0
 exact Vt6 n d m hd hb h0
def Jc7 (a b:Int):Int:=Ja3 (Ja3 a+Ja3 b)
def Je1 (a b:Int):Int:=Ja3 (Ja3 a - Ja3 b)
def Jj0 (a:Int):Int:=if Ja3 a<0 then -Ja3 a else Ja3 a
def ofI (n:Int):Int:=if 32768<n then 2147483648 else if n < -32768 then -2147483648 else n*65536
def Jd3 (a b:Int):Int:=Ja3 (Ja3 a*Ja3 b / 65536)
def Je4 (a b:Int):Int:=if Ja3 b=0 then (if 0<Ja3 a then 2147483648 else if Ja3 a<0 then -2147483648 else 0) else Ja3 (Jj3 (Ja3 a*65536) (Ja3 b))
def Jb6 (a:Int):Int:=if a<0 then 0 else if 65536<a then 65536 else a
def Je9 (a b t:Int):Int:=Ja3 (Ja3 a+(Ja3 b - Ja3 a)*Jb6 t / 65536)
theorem Jt5 (t:Int):0<=Jb6 t/\Jb6 t<=65536:=by unfold Jb6;split<;>(try split)<;>omega
theorem Qp6 (a b:Int):Jc7 a b=(Ja3 (Ja3 a+Ja3 b)):=rfl
theorem Qi6 (a b:Int):Je1 a b=(Ja3 (Ja3 a - Ja3 b)):=rfl
theorem Jw7 (a b:Int)(m:Ja1):Ctr Tryz.prog 117 [.one (.int .i64 a),.one (.int .i64 b)] m (.one (.int .i64 (Jc7 a b))) m:=by
 have ha:=Jc6 a
 have hb:=Jc6 b
 have hw:IntKind.i64.wrap (Ja3 a+Ja3 b)=Ja3 a+Ja3 b:=wi (by omega)
 exact Ctr.f Tryz.func117 [.tmp 4] 11 hw (ca2 Vf0 Jw1) (ca2 @Qp6 @Qi6)
theorem Jr8 (a b:Int)(m:Ja1):Ctr Tryz.prog 143 [.one (.int .i64 a),.one (.int .i64 b)] m (.one (.int .i64 (Jc7 a b))) m:=by
 have ha:=Jc6 a
 have hb:=Jc6 b
 have hw:IntKind.i64.wrap (Ja3 a+Ja3 b)=Ja3 a+Ja3 b:=wi (by omega)
 exact Ctr.f Tryz.func143 [.tmp 4] 11 hw Ji8 (ca2 @Qp6 @Qi6)
theorem Jx0 (a b:Int)(m:Ja1):Ctr Tryz.prog 116 [.one (.int .i64 a),.one (.int .i64 b)] m (.one (.int .i64 (Je1 a b))) m:=by
 have ha:=Jc6 a
 have hb:=Jc6 b
 have hw:IntKind.i64.wrap (Ja3 a - Ja3 b)=Ja3 a - Ja3 b:=wi (by omega)
 exact Ctr.f Tryz.func116 [.tmp 4] 11 hw (ca2 Vf0 Jw1) (ca2 @Qp6 @Qi6)
theorem Jr6 (a b:Int)(m:Ja1):Ctr Tryz.prog 141 [.one (.int .i64 a),.one (.int .i64 b)] m (.one (.int .i64 (Je1 a b))) m:=by
 have ha:=Jc6 a
 have hb:=Jc6 b
 have hw:IntKind.i64.wrap (Ja3 a - Ja3 b)=Ja3 a - Ja3 b:=wi (by omega)
 exact Ctr.f Tryz.func141 [.tmp 4] 11 hw Ji8 (ca2 @Qp6 @Qi6)
theorem Xk4 (a:Int)(m:Ja1):Ctr Tryz.prog 234 [.one (.int .i64 a)] m (.one (.int .i64 (-Ja3 a))) m:=by
 have ha:=Jc6 a
 have hn:Ja3 (-Ja3 a)=-Ja3 a:=Jb4 (by omega)
 have hw:IntKind.i64.wrap (-Ja3 a)=-Ja3 a:=wi (by omega)
 have U1:=ca2 @Int.zero_sub hw
 exact Ctr.f Tryz.func234 [.tmp 2] 7 U1 (ca2 Vf0 Jw1) hn
theorem Jk9 (a:Int)(m:Ja1):Ctr Tryz.prog 225 [.one (.int .i64 a)] m (.one (.int .i64 (Jj0 a))) m:=by
 have ha:=Jc6 a
 have hn:Ja3 (Eng.maxI (Ja3 a) (-Ja3 a))=Jj0 a:=by
   rw [Jb4 (by unfold Eng.maxI;split<;>omega)];unfold Eng.maxI Jj0;split<;>split<;>omega
 have hw:IntKind.i64.wrap (-Ja3 a)=-Ja3 a:=wi (by omega)
 have U2:=ca2 @Int.zero_sub hw
 exact Ctr.f Tryz.func225 [.tmp 2] 10 U2 (ca2 Vf0 Jw1) hn
theorem Vq1 (a:Int)(m:Ja1):Ctr Tryz.prog 114 [.one (.int .i64 a)] m (.one (.int .i64 (ofI a))) m:=by
 have hm:-1048576<=Eng.maxI (-1048576) (Eng.minI a 1048576)/\Eng.maxI (-1048576) (Eng.minI a 1048576)<=1048576:=by
   unfold Eng.maxI Eng.minI;split<;>split at *<;>omega
 have hn:Ja3 (Eng.maxI (-1048576) (Eng.minI a 1048576)*65536)=ofI a:=by
   unfold Eng.maxI Eng.minI Ja3 ofI;(repeat' split)<;>omega
 have hw0:IntKind.i64.wrap (Eng.maxI (-1048576) (Eng.minI a 1048576))=Eng.maxI (-1048576) (Eng.minI a 1048576):=wi (by omega)
 have hw:IntKind.i64.wrap (Eng.maxI (-1048576) (Eng.minI a 1048576)*65536)=Eng.maxI (-1048576) (Eng.minI a 1048576)*65536:=wi (by omega)
 have U3:=ca2 hw0 hw
 exact Ctr.f Tryz.func114 [.tmp 2] 8 U3 Jw1 hn
theorem Kv0 (a:Int)(m:Ja1):Ctr Tryz.prog 139 [.one (.int .i64 a)] m (.one (.int .i64 (ofI a))) m:=by
 refine Ctr.en Tryz.func139 [.tmp 2] 9 fun hwf Q hQ=>?_
 refine AW.w 3 Tru Tru fun K J0=>?_
 refine AW.cond rfl (fun h4=>?_) (fun h4=>?_)
 ·have hr:ofI a=2147483648:=by have:=of_decide_eq_true h4;unfold ofI;rw [if_pos this]
  exact AW.f Tru Tru hr
 refine AW.w 4 Tru Tru fun K J0=>?_
 refine AW.cond rfl (fun h6=>?_) (fun h6=>?_)
 ·have hr:ofI a=-2147483648:=by have h0:=of_decide_eq_false h4;have:=of_decide_eq_true h6;unfold ofI;rw [if_neg h0,if_pos this]
  exact AW.f Tru Tru hr
 have h0:=of_decide_eq_false h4
 have h9:=of_decide_eq_false h6
 have hr:ofI a=a*65536:=by unfold ofI;rw [if_neg h0,if_neg h9]
 have hw1:IntKind.i64.wrap a=a:=wi (by omega)
 have hw2:IntKind.i64.wrap (a*65536)=a*65536:=wi (by omega)
 refine AW.w 2 Tru Tru ?_
 have U4:=ca2 hw1 hw2
 exact AW.f U4 Tru hr
theorem Vb8:(2:Int) ^ min 16 IntKind.i64.bits=65536:=by decide
theorem Xc9 (x:Int):x.fdiv 65536=x / 65536:=Int.fdiv_eq_ediv_of_nonneg _ (by decide)
theorem Vz2 (a b:Int):Jd3 a b=(Ja3 (Ja3 a*Ja3 b / 65536)):=rfl
theorem Jk7 (a b:Int)(m:Ja1):Ctr Tryz.prog 121 [.one (.int .i64 a),.one (.int .i64 b)] m (.one (.int .i64 (Jd3 a b))) m:=by
 have ha:=Jc6 a
 have hb:=Jc6 b
 have hm:=Qn1 a b
 have hq:=Kp0 (n:=Ja3 a*Ja3 b) (d:=65536) (A:=4611686018427387904) (by decide) (by omega)
 have hw:IntKind.i64.wrap (Ja3 a*Ja3 b)=Ja3 a*Ja3 b:=wi (by omega)
 have hw2:IntKind.i64.wrap (Ja3 a*Ja3 b / 65536)=Ja3 a*Ja3 b / 65536:=wi (by omega)
 have U5:=ca4 hw hw2 @Vb8 @Xc9
 exact Ctr.f Tryz.func121 [.tmp 4] 12 U5 (ca2 Vf0 Jw1) @Vz2
theorem Ji2 (a b:Int)(m:Ja1):Ctr Tryz.prog 147 [.one (.int .i64 a),.one (.int .i64 b)] m (.one (.int .i64 (Jd3 a b))) m:=by
 have ha:=Jc6 a
 have hb:=Jc6 b
 have hm:=Qn1 a b
 have hq:=Kp0 (n:=Ja3 a*Ja3 b) (d:=65536) (A:=4611686018427387904) (by decide) (by omega)
 have hw:IntKind.i64.wrap (Ja3 a*Ja3 b)=Ja3 a*Ja3 b:=wi (by omega)
 have hw2:IntKind.i64.wrap (Ja3 a*Ja3 b / 65536)=Ja3 a*Ja3 b / 65536:=wi (by omega)
 have U6:=ca2 hw hw2
 exact Ctr.f Tryz.func147 [.tmp 4] 12 U6 (ca2 Ji8 (Jp5 (Ja3 a*Ja3 b) 65536 _ (by decide) (by omega) (by decide))) @Vz2
theorem Jr3 (a b:Int)(m:Ja1):Ctr Tryz.prog 115 [.one (.int .i64 a),.one (.int .i64 b)] m (.one (.int .i64 (Je4 a b))) m:=by
 refine Ctr.en Tryz.func115 [.tmp 4] 25 fun hwf Q hQ=>?_
 have ha:=Jc6 a
 have hb:=Jc6 b
 have hs:IntKind.i64.wrap (Ja3 a*65536)=Ja3 a*65536:=wi (by omega)
 have U7:=ca2 @Vb8 hs
 refine AW.w 5 U7 Vf0 fun K J0=>?_
 refine AW.cond rfl (fun h11=>?_) (fun h11=>?_)
 ·have hd:Ja3 b≠0:=by simpa using h11
  have hr:Je4 a b=Ja3 (Jj3 (Ja3 a*65536) (Ja3 b)):=by unfold Je4;rw [if_neg hd]
  exact AW.f U7 (ca2 (Xo0 (Ja3 a*65536) (Ja3 b) _ hd (by omega)) Jw1) hr
 refine AW.c 1 U7 Tru ?_
 refine AW.cond rfl (fun h19=>?_) (fun h19=>?_)
 ·have hd:Ja3 b=0:=by simpa using h11
  have hr:Je4 a b=2147483648:=by have:=of_decide_eq_true h19;unfold Je4;rw [if_pos hd,if_pos this]
  exact AW.f U7 Tru hr
 refine AW.c 1 U7 Tru ?_
 refine AW.cond rfl (fun h22=>?_) (fun h22=>?_)
 ·have hd:Ja3 b=0:=by simpa using h11
  have hr:Je4 a b=-2147483648:=by have h0:=of_decide_eq_false h19;have:=of_decide_eq_true h22;unfold Je4;rw [if_pos hd,if_neg h0,if_pos this]
  exact AW.f U7 Tru hr
 have hd:Ja3 b=0:=by simpa using h11
 have hr:Je4 a b=0:=by have h0:=of_decide_eq_false h19;have:=of_decide_eq_false h22;unfold Je4;rw [if_pos hd,if_neg h0,if_neg this]
 exact AW.f U7 Tru hr
theorem Jj8 (a b:Int)(m:Ja1):Ctr Tryz.prog 140 [.one (.int .i64 a),.one (.int .i64 b)] m (.one (.int .i64 (Je4 a b))) m:=by
 refine Ctr.en Tryz.func140 [.tmp 4] 29 fun hwf Q hQ=>?_
 have ha:=Jc6 a
 have hb:=Jc6 b
 have hs:IntKind.i64.wrap (Ja3 a*65536)=Ja3 a*65536:=wi (by omega)
 have hn1:IntKind.i64.wrap (-Ja3 a)=-Ja3 a:=wi (by omega)
 have hn2:IntKind.i64.wrap (-Ja3 b)=-Ja3 b:=wi (by omega)
 have hn3:IntKind.i64.wrap (-Ja3 a*65536)=-Ja3 a*65536:=wi (by omega)
 have U8:=ca4 @Int.zero_sub hs hn1 (ca2 hn2 hn3)
 refine AW.w 5 U8 Ji8 fun K J0=>?_
 refine AW.cond rfl (fun h10=>?_) (fun h10=>?_)
 ·refine AW.w 2 U8 Tru fun K J1=>?_
  refine AW.cond rfl (fun h12=>?_) (fun h12=>?_)
  ·have hd:Ja3 b=0:=by simpa using h10
   have hr:Je4 a b=2147483648:=by have:=of_decide_eq_true h12;unfold Je4;rw [if_pos hd,if_pos this]
   exact AW.f U8 Tru hr
  refine AW.w 4 U8 Tru fun K J1=>?_
  refine AW.cond rfl (fun h14=>?_) (fun h14=>?_)
  ·have hd:Ja3 b=0:=by simpa using h10
   have hr:Je4 a b=-2147483648:=by have h0:=of_decide_eq_false h12;have:=of_decide_eq_true h14;unfold Je4;rw [if_pos hd,if_neg h0,if_pos this]
   exact AW.f U8 Tru hr
  have hd:Ja3 b=0:=by simpa using h10
  have hr:Je4 a b=0:=by have h0:=of_decide_eq_false h12;have:=of_decide_eq_false h14;unfold Je4;rw [if_pos hd,if_neg h0,if_neg this]
  exact AW.f U8 Tru hr
 refine AW.w 4 U8 Tru fun K J0=>?_
 refine AW.cond rfl (fun h16=>?_) (fun h16=>?_)
 ·have hd:Ja3 b≠0:=by simpa using h10
  have hlt:=of_decide_eq_true h16
  have hr:Je4 a b=Ja3 (-Ja3 a*65536 / -Ja3 b):=by unfold Je4 Jj3;rw [if_neg hd,if_neg (by omega),show -(Ja3 a*65536)=-Ja3 a*65536 by omega]
  exact AW.f U8 (ca2 (Jp5 (-Ja3 a*65536) (-Ja3 b) _ (by omega) (by omega) (by omega)) Ji8) hr
 have hd:Ja3 b≠0:=by simpa using h10
 have hlt:=of_decide_eq_false h16
 have hr:Je4 a b=Ja3 (Ja3 a*65536 / Ja3 b):=by unfold Je4 Jj3;rw [if_neg hd,if_pos (by omega)]
 exact AW.f U8 (ca2 (Jp5 (Ja3 a*65536) (Ja3 b) _ (by omega) (by omega) (by omega)) Ji8) hr
theorem Ke3 (a:Int)(m:Ja1):Ctr Tryz.prog 223 [.one (.int .i64 a)] m (.one (.int .i64 (Ja3 a / 65536))) m:=by
 have ha:=Jc6 a
 have hw:IntKind.i64.wrap (Ja3 a / 65536)=Ja3 a / 65536:=wi (by omega)
 have U9:=ca3 hw @Vb8 @Xc9
 exact Ctr.f Tryz.func223 [.tmp 2] 6 U9 Vf0
theorem Vz0 (a:Int)(m:Ja1):Ctr Tryz.prog 262 [.one (.int .i64 a)] m (.one (.int .i64 (Ja3 a%65536))) m:=by
 have ha:=Jc6 a
 have hw:IntKind.i64.wrap (Ja3 a%65536)=Ja3 a%65536:=wi (by omega)
 have U10:=ca2 hw @Vw5
 exact Ctr.f Tryz.func262 [.tmp 2] 6 U10 Vf0
theorem Kj5 (a:Int)(m:Ja1):Ctr Tryz.prog 118 [.one (.int .i64 a)] m (.one (.int .i64 (Jb6 a))) m:=by
 have hu:Eng.maxI 0 (Eng.minI a 65536)=Jb6 a:=by unfold Eng.maxI Eng.minI Jb6;(repeat' split)<;>omega
 exact Ctr.f Tryz.func118 [.tmp 2] 6 Tru Tru hu
theorem Jv5 (a:Int)(m:Ja1):Ctr Tryz.prog 144 [.one (.int .i64 a)] m (.one (.int .i64 (Jb6 a))) m:=by
 refine Ctr.en Tryz.func144 [.tmp 2] 8 fun hwf Q hQ=>?_
 refine AW.w 3 Tru Tru fun K J0=>?_
 refine AW.cond rfl (fun h4=>?_) (fun h4=>?_)
 ·have hr:Jb6 a=0:=by have:=of_decide_eq_true h4;unfold Jb6;rw [if_pos this]
  exact AW.f Tru Tru hr
 refine AW.w 4 Tru Tru fun K J0=>?_
 refine AW.cond rfl (fun h6=>?_) (fun h6=>?_)
 ·have hr:Jb6 a=65536:=by have h0:=of_decide_eq_false h4;have:=of_decide_eq_true h6;unfold Jb6;rw [if_neg h0,if_pos this]
  exact AW.f Tru Tru hr
 have hr:Jb6 a=a:=by have h0:=of_decide_eq_false h4;have:=of_decide_eq_false h6;unfold Jb6;rw [if_neg h0,if_neg this]
 exact AW.f Tru Tru hr
theorem Ve6 (a b t:Int):Je9 a b t=(Ja3 (Ja3 a+(Ja3 b - Ja3 a)*Jb6 t / 65536)):=rfl
theorem Vz8 (a b t:Int)(m:Ja1):Ctr Tryz.prog 163 [.one (.int .i64 a),.one (.int .i64 b),.one (.int .i64 t)] m (.one (.int .i64 (Je9 a b t))) m:=by
 have ha:=Jc6 a
 have hb:=Jc6 b
 have hu:=Jt5 t
 have hp:=Qs1 (x:=Ja3 b - Ja3 a) (y:=Jb6 t) (A:=4294967296) (B:=65536) (by omega) (by omega)
 have hq:=Kp0 (n:=(Ja3 b - Ja3 a)*Jb6 t) (d:=65536) (A:=281474976710656) (by decide) (by omega)
 have hk:-4294967296<=(Ja3 b - Ja3 a)*Jb6 t / 65536/\(Ja3 b - Ja3 a)*Jb6 t / 65536<=4294967296:=by omega
 have w1:IntKind.i64.wrap (Ja3 b - Ja3 a)=Ja3 b - Ja3 a:=wi (by omega)
 have w0:IntKind.i64.wrap (Jb6 t)=Jb6 t:=wi (by omega)
 have w2:IntKind.i64.wrap ((Ja3 b - Ja3 a)*Jb6 t)=(Ja3 b - Ja3 a)*Jb6 t:=wi (by omega)
 have w3:IntKind.i64.wrap ((Ja3 b - Ja3 a)*Jb6 t / 65536)=(Ja3 b - Ja3 a)*Jb6 t / 65536:=wi (by omega)
 have w4:IntKind.i64.wrap (Ja3 a+(Ja3 b - Ja3 a)*Jb6 t / 65536)=Ja3 a+(Ja3 b - Ja3 a)*Jb6 t / 65536:=wi (by omega)
 have U11:=ca4 w0 w1 w2 (ca4 w3 w4 @Vb8 @Xc9)
 exact Ctr.f Tryz.func163 [.tmp 6] 23 U11 (ca3 Vf0 Kj5 Jw1) @Ve6
theorem Va2 (a b t:Int)(m:Ja1):Ctr Tryz.prog 76 [.one (.int .i64 a),.one (.int .i64 b),.one (.int .i64 t)] m (.one (.int .i64 (Je9 a b t))) m:=by
 have ha:=Jc6 a
 have hb:=Jc6 b
 have hu:=Jt5 t
 have hp:=Qs1 (x:=Ja3 b - Ja3 a) (y:=Jb6 t) (A:=4294967296) (B:=65536) (by omega) (by omega)
 have hq:=Kp0 (n:=(Ja3 b - Ja3 a)*Jb6 t) (d:=65536) (A:=281474976710656) (by decide) (by omega)
 have hk:-4294967296<=(Ja3 b - Ja3 a)*Jb6 t / 65536/\(Ja3 b - Ja3 a)*Jb6 t / 65536<=4294967296:=by omega
 have w1:IntKind.i64.wrap (Ja3 b - Ja3 a)=Ja3 b - Ja3 a:=wi (by omega)
 have w0:IntKind.i64.wrap (Jb6 t)=Jb6 t:=wi (by omega)
 have w2:IntKind.i64.wrap ((Ja3 b - Ja3 a)*Jb6 t)=(Ja3 b - Ja3 a)*Jb6 t:=wi (by omega)
 have w3:IntKind.i64.wrap ((Ja3 b - Ja3 a)*Jb6 t / 65536)=(Ja3 b - Ja3 a)*Jb6 t / 65536:=wi (by omega)
 have w4:IntKind.i64.wrap (Ja3 a+(Ja3 b - Ja3 a)*Jb6 t / 65536)=Ja3 a+(Ja3 b - Ja3 a)*Jb6 t / 65536:=wi (by omega)
 have U12:=ca4 w0 w1 w2 (ca2 w3 w4)
 exact Ctr.f Tryz.func76 [.tmp 6] 21 U12 (ca3 Ji8 Jv5 (Jp5 ((Ja3 b - Ja3 a)*Jb6 t) 65536 _ (by decide) (by omega) (by decide))) @Ve6
theorem Jd0 {a b:Int}(h:a<=b):Ja3 a<=Ja3 b:=by unfold Ja3;(repeat' split)<;>omega
theorem Jp0 (a b t:Int):∃ A u:Int,A=Ja3 a*(65536 - u)+Ja3 b*u/\u=Jb6 t/\Je9 a b t=A / 65536/\(Ja3 a<=A / 65536/\A / 65536<=Ja3 b\/Ja3 b<=A / 65536/\A / 65536<=Ja3 a):=by
 have hu:=Jt5 t
 obtain ⟨u,hq⟩:∃ u,u=Jb6 t:=⟨_,rfl⟩
 rw [<-hq] at hu
 have e:Ja3 a+(Ja3 b - Ja3 a)*u / 65536=(Ja3 a*(65536 - u)+Ja3 b*u) / 65536:=by
  have:Ja3 a*(65536 - u)+Ja3 b*u=(Ja3 b - Ja3 a)*u+Ja3 a*65536:=by rw [Int.mul_sub,Int.sub_mul];omega
  rw [this,Int.add_mul_ediv_right _ _ (by decide)];omega
 have hb:Ja3 a<=(Ja3 a*(65536 - u)+Ja3 b*u) / 65536/\(Ja3 a*(65536 - u)+Ja3 b*u) / 65536<=Ja3 b\/Ja3 b<=(Ja3 a*(65536 - u)+Ja3 b*u) / 65536/\(Ja3 a*(65536 - u)+Ja3 b*u) / 65536<=Ja3 a:=by
  rcases Int.le_total (Ja3 a) (Ja3 b) with h|h
  ·left
   have h1:=Int.mul_le_mul_of_nonneg_right h hu.1
   have h2:=Int.mul_le_mul_of_nonneg_right h (show 0<=65536 - u by omega)
   have e1:Ja3 a*(65536 - u)+Ja3 a*u=Ja3 a*65536:=by rw [<-Int.mul_add];congr 1;omega
   have e2:Ja3 b*(65536 - u)+Ja3 b*u=Ja3 b*65536:=by rw [<-Int.mul_add];congr 1;omega
   omega
  right
  have h1:=Int.mul_le_mul_of_nonneg_right h hu.1
  have h2:=Int.mul_le_mul_of_nonneg_right h (show 0<=65536 - u by omega)
  have e1:Ja3 a*(65536 - u)+Ja3 a*u=Ja3 a*65536:=by rw [<-Int.mul_add];congr 1;omega
  have e2:Ja3 b*(65536 - u)+Ja3 b*u=Ja3 b*65536:=by rw [<-Int.mul_add];congr 1;omega
  omega
 refine ⟨_,u,rfl,hq,?_,hb⟩
 have ha:=Jc6 a
 have hb':=Jc6 b
 unfold Je9
 rw [<-hq,e]
 exact Jb4 (by omega)
theorem Ju7 {a b a' b':Int}(t:Int)(h1:Ja3 a<=Ja3 a')(h2:Ja3 b<=Ja3 b'):Je9 a b t<=Je9 a' b' t:=by
 obtain ⟨A,u,e1,e2,e3,_⟩:=Jp0 a b t
 obtain ⟨A',u',f1,f2,f3,_⟩:=Jp0 a' b' t
 have hu:=Jt5 t
 subst e2;subst f2
 rw [e3,f3,e1,f1]
 have g1:=Int.mul_le_mul_of_nonneg_right h1 (show 0<=65536 - Jb6 t by omega)
 have g2:=Int.mul_le_mul_of_nonneg_right h2 hu.1
 omega
theorem Qm0 (a b t:Int):-2147483648<=Je9 a b t/\Je9 a b t<=2147483648:=Jc6 _
theorem Kg5 {d t t':Int}(hd:0<=Ja3 d)(h:t<=t'):Jd3 d t<=Jd3 d t':=by
 unfold Jd3
 have:=Int.mul_le_mul_of_nonneg_left (Jd0 h) hd
 exact Jd0 (by omega)
theorem Kg6 {d t t':Int}(hd:Ja3 d<=0)(h:t<=t'):Jd3 d t'<=Jd3 d t:=by
 unfold Jd3
 have:=Int.mul_le_mul_of_nonpos_left hd (Jd0 h)
 exact Jd0 (by omega)
theorem Kj1 {a b b':Int}(h:b<=b'):Jc7 a b<=Jc7 a b':=by
 unfold Jc7;exact Jd0 (by have:=Jd0 h;omega)
abbrev V:=Nat->Int
structure PL where
 (kind paint:Int) (P:Nat->V) (r:Int)
structure MV where
 (A B:PL)
def atM (m:MV)(t:Int):PL:=⟨m.A.kind,m.A.paint,fun i k=>Je9 (m.A.P i k) (m.B.P i k) t,Je9 m.A.r m.B.r t⟩
structure BX where
 (lo hi:V)
structure PR where
 (a b:BX)
def lo3 (p:PL)(k:Nat):Int:=minI (minI (p.P 0 k) (p.P 1 k)) (p.P 2 k)
def hi3 (p:PL)(k:Nat):Int:=maxI (maxI (p.P 0 k) (p.P 1 k)) (p.P 2 k)
def Jc5 (p:PL):BX:=if p.kind=0 then ⟨fun k=>Je1 (p.P 0 k) (Jc7 p.r 8192),fun k=>Jc7 (p.P 0 k) (Jc7 p.r 8192)⟩ else ⟨fun k=>Je1 (lo3 p k) 8192,fun k=>Jc7 (hi3 p k) 8192⟩
def Ka9 (b:BX)(q:V):Prop:=∀ k,k<3->b.lo k<=q k/\q k<=b.hi k
def Ke0 (b:BX):Prop:=∃ k,k<3/\(2147483648<=Jj0 (b.lo k)\/2147483648<=Jj0 (b.hi k))
def Vs7 (b c:BX):BX:=⟨fun k=>minI (b.lo k) (c.lo k),fun k=>maxI (b.hi k) (c.hi k)⟩
def Qd3 (p q:PR):PR:=⟨Vs7 p.a q.a,Vs7 p.b q.b⟩
def atP (p:PR)(t:Int):BX:=⟨fun k=>Je9 (p.a.lo k) (p.b.lo k) t,fun k=>Je9 (p.a.hi k) (p.b.hi k) t⟩
def Vk3:BX:=⟨fun _=>-2147483648,fun _=>2147483648⟩
def Jm9 (m:MV):PR:=⟨Jc5 m.A,Jc5 { m.B with kind:=m.A.kind }⟩
def Vk5 (m:MV):Int:=maxI (Jc7 m.A.r 8192) (Jc7 m.B.r 8192)
def badM (m:MV):Prop:=Ke0 (Jm9 m).a\/Ke0 (Jm9 m).b\/2147483648<=Vk5 m
open Classical in
noncomputable def Ke1 (m:MV):PR:=if badM m then ⟨Vk3,Vk3⟩ else Jm9 m
theorem Qp7 {x:Int}(h:¬2147483648<=Jj0 x):-2147483648<Ja3 x/\Ja3 x<2147483648:=by
 unfold Jj0 at h;split at h<;>omega
theorem Kn0 (a b:Int):minI a b<=a:=by unfold minI;split<;>omega
theorem Km9 (a b:Int):minI a b<=b:=by unfold minI;split<;>omega
theorem Kf4 (a b:Int):a<=maxI a b:=by unfold maxI;split<;>omega
theorem Kf3 (a b:Int):b<=maxI a b:=by unfold maxI;split<;>omega
theorem Vz6 (p:PL)(k i:Nat)(hi:i<3):lo3 p k<=p.P i k:=by
 have h1:=Kn0 (minI (p.P 0 k) (p.P 1 k)) (p.P 2 k)
 have h2:=Km9 (minI (p.P 0 k) (p.P 1 k)) (p.P 2 k)
 have h3:=Kn0 (p.P 0 k) (p.P 1 k)
 have h4:=Km9 (p.P 0 k) (p.P 1 k)
 unfold lo3
 match i,hi with
 | 0,_=>omega
 | 1,_=>omega
 | 2,_=>omega
theorem Vz9 (p:PL)(k i:Nat)(hi:i<3):p.P i k<=hi3 p k:=by
 have h1:=Kf4 (maxI (p.P 0 k) (p.P 1 k)) (p.P 2 k)
 have h2:=Kf3 (maxI (p.P 0 k) (p.P 1 k)) (p.P 2 k)
 have h3:=Kf4 (p.P 0 k) (p.P 1 k)
 have h4:=Kf3 (p.P 0 k) (p.P 1 k)
 unfold hi3
 match i,hi with
 | 0,_=>omega
 | 1,_=>omega
 | 2,_=>omega
theorem Xm2 (p:PL)(k:Nat):∃ i,i<3/\lo3 p k=p.P i k:=by
 unfold lo3 minI
 (repeat' split)
 all_goals first|exact ⟨0,by omega,rfl⟩|exact ⟨1,by omega,rfl⟩|exact ⟨2,by omega,rfl⟩
theorem Xn3 (p:PL)(k:Nat):∃ i,i<3/\hi3 p k=p.P i k:=by
 unfold hi3 maxI
 (repeat' split)
 all_goals first|exact ⟨0,by omega,rfl⟩|exact ⟨1,by omega,rfl⟩|exact ⟨2,by omega,rfl⟩
theorem Xk5 {m:MV}{t:Int}{q:V}(hq:∀ k,-2147483648<=q k/\q k<=2147483648)(h:Ka9 (Jc5 (atM m t)) q):Ka9 (atP (Ke1 m) t) q:=by
 intro k hk
 have hqk:=hq k
 have hh:=h k hk
 unfold Ke1
 split
 ·show Je9 (-2147483648) (-2147483648) t<=q k/\q k<=Je9 2147483648 2147483648 t
  obtain ⟨A,u,_,_,e3,e4⟩:=Jp0 (-2147483648) (-2147483648) t
  obtain ⟨A',u',_,_,f3,f4⟩:=Jp0 2147483648 2147483648 t
  have h1:Ja3 (-2147483648)=-2147483648:=by decide
  have h2:Ja3 2147483648=2147483648:=by decide
  rw [h1] at e4;rw [h2] at f4
  omega
 rename_i hb
 have ha:¬Ke0 (Jm9 m).a:=fun h=>hb (.inl h)
 have hbb:¬Ke0 (Jm9 m).b:=fun h=>hb (.inr (.inl h))
 have hw:¬2147483648<=Vk5 m:=fun h=>hb (.inr (.inr h))
 have al:¬2147483648<=Jj0 ((Jm9 m).a.lo k):=fun h=>ha ⟨k,hk,.inl h⟩
 have ah:¬2147483648<=Jj0 ((Jm9 m).a.hi k):=fun h=>ha ⟨k,hk,.inr h⟩
 have bl:¬2147483648<=Jj0 ((Jm9 m).b.lo k):=fun h=>hbb ⟨k,hk,.inl h⟩
 have bh:¬2147483648<=Jj0 ((Jm9 m).b.hi k):=fun h=>hbb ⟨k,hk,.inr h⟩
 have al:=Qp7 al
 have ah:=Qp7 ah
 have bl:=Qp7 bl
 have bh:=Qp7 bh
 have w1:=Kf4 (Jc7 m.A.r 8192) (Jc7 m.B.r 8192)
 have w2:=Kf3 (Jc7 m.A.r 8192) (Jc7 m.B.r 8192)
 show Je9 ((Jm9 m).a.lo k) ((Jm9 m).b.lo k) t<=q k/\q k<=Je9 ((Jm9 m).a.hi k) ((Jm9 m).b.hi k) t
 have h8:Ja3 8192=8192:=by decide
 have hu:=Jt5 t
 by_cases hk0:m.A.kind=0
 ·-- a ball
  have ea:Jc5 m.A=⟨fun k=>Je1 (m.A.P 0 k) (Jc7 m.A.r 8192),fun k=>Jc7 (m.A.P 0 k) (Jc7 m.A.r 8192)⟩:=by unfold Jc5;rw [if_pos hk0]
  have eb:Jc5 { m.B with kind:=m.A.kind }=⟨fun k=>Je1 (m.B.P 0 k) (Jc7 m.B.r 8192),fun k=>Jc7 (m.B.P 0 k) (Jc7 m.B.r 8192)⟩:=by unfold Jc5;rw [if_pos hk0]
  have et:Jc5 (atM m t)=⟨fun k=>Je1 ((atM m t).P 0 k) (Jc7 (atM m t).r 8192),fun k=>Jc7 ((atM m t).P 0 k) (Jc7 (atM m t).r 8192)⟩:=by unfold Jc5;rw [if_pos (show (atM m t).kind=0 from hk0)]
  rw [et] at hh
  simp only [atM] at hh
  simp only [Jm9,ea,eb] at al ah bl bh ⊢
  obtain ⟨X,u,x1,x2,x3,x4⟩:=Jp0 (m.A.P 0 k) (m.B.P 0 k) t
  obtain ⟨Y,u2,y1,y2,y3,y4⟩:=Jp0 m.A.r m.B.r t
  rw [x3,y3] at hh
  have pa:=Jc6 (m.A.P 0 k)
  have pb:=Jc6 (m.B.P 0 k)
  have ra:=Jc6 m.A.r
  have rb:=Jc6 m.B.r
  obtain ⟨a,hA⟩:∃ a,a=Ja3 (m.A.P 0 k):=⟨_,rfl⟩
  obtain ⟨b,hB⟩:∃ b,b=Ja3 (m.B.P 0 k):=⟨_,rfl⟩
  obtain ⟨c,hC⟩:∃ c,c=Ja3 m.A.r:=⟨_,rfl⟩
  obtain ⟨d,hD⟩:∃ d,d=Ja3 m.B.r:=⟨_,rfl⟩
  have wa:Jc7 m.A.r 8192=c+8192:=by
   have:Jc7 m.A.r 8192<2147483648:=by unfold Vk5 at hw;omega
   unfold Jc7 at this ⊢;rw [h8,<-hC] at this ⊢;unfold Ja3 at this ⊢;(repeat' split at this)<;>(repeat' split)<;>omega
  have wb:Jc7 m.B.r 8192=d+8192:=by
   have:Jc7 m.B.r 8192<2147483648:=by unfold Vk5 at hw;omega
   unfold Jc7 at this ⊢;rw [h8,<-hD] at this ⊢;unfold Ja3 at this ⊢;(repeat' split at this)<;>(repeat' split)<;>omega
  rw [wa] at al ah
  rw [wb] at bl bh
  rw [wa,wb]
  have hc:Ja3 (c+8192)=c+8192:=Jb4 (by rw [<-wa];exact Jc6 _)
  have hd:Ja3 (d+8192)=d+8192:=Jb4 (by rw [<-wb];exact Jc6 _)
  have un:∀ z:Int,-2147483648<Ja3 (Ja3 z)/\Ja3 (Ja3 z)<2147483648->Ja3 z=z:=fun z hz=>by unfold Ja3 at hz ⊢;(repeat' split at hz)<;>(repeat' split)<;>omega
  have s1:Je1 (m.A.P 0 k) (c+8192)=a - (c+8192):=by unfold Je1 at al ⊢;rw [hc,<-hA] at al ⊢;exact un _ al
  have s2:Jc7 (m.A.P 0 k) (c+8192)=a+(c+8192):=by unfold Jc7 at ah ⊢;rw [hc,<-hA] at ah ⊢;exact un _ ah
  have s3:Je1 (m.B.P 0 k) (d+8192)=b - (d+8192):=by unfold Je1 at bl ⊢;rw [hd,<-hB] at bl ⊢;exact un _ bl
  have s4:Jc7 (m.B.P 0 k) (d+8192)=b+(d+8192):=by unfold Jc7 at bh ⊢;rw [hd,<-hB] at bh ⊢;exact un _ bh
  rw [s1] at al;rw [s2] at ah;rw [s3] at bl;rw [s4] at bh
  rw [s1,s2,s3,s4]
  have i1:Ja3 (a - (c+8192))=a - (c+8192):=by rw [<-s1];exact Jb4 (Jc6 _)
  have i2:Ja3 (a+(c+8192))=a+(c+8192):=by rw [<-s2];exact Jb4 (Jc6 _)
  have i3:Ja3 (b - (d+8192))=b - (d+8192):=by rw [<-s3];exact Jb4 (Jc6 _)
  have i4:Ja3 (b+(d+8192))=b+(d+8192):=by rw [<-s4];exact Jb4 (Jc6 _)
  rw [i1] at al;rw [i2] at ah;rw [i3] at bl;rw [i4] at bh
  obtain ⟨L,uL,l1,l2,l3,l4⟩:=Jp0 (a - (c+8192)) (b - (d+8192)) t
  obtain ⟨H,uH,k1,k2,k3,k4⟩:=Jp0 (a+(c+8192)) (b+(d+8192)) t
  rw [i1,i3] at l1 l4
  rw [i2,i4] at k1 k4
  rw [l3,k3]
  rw [<-hA,<-hB] at x1 x4
  rw [<-hC,<-hD] at y1 y4
  subst x2;subst y2;subst l2;subst k2
  have eL:L=X - Y - 8192*65536:=by
   rw [l1,x1,y1];simp only [Int.sub_mul,Int.add_mul,Int.mul_sub];omega
  have eH:H=X+Y+8192*65536:=by
   rw [k1,x1,y1];simp only [Int.add_mul,Int.mul_sub];omega
  have hx:Ja3 (X / 65536)=X / 65536:=Jb4 (by omega)
  have hy:Ja3 (Y / 65536)=Y / 65536:=Jb4 (by omega)
  have hy8:Jc7 (Y / 65536) 8192=Y / 65536+8192:=by unfold Jc7;rw [hy,h8];exact Jb4 (by omega)
  rw [hy8] at hh
  have hyy:Ja3 (Y / 65536+8192)=Y / 65536+8192:=Jb4 (by omega)
  unfold Je1 Jc7 at hh
  rw [hx,hyy] at hh
  have g1:L / 65536<=X / 65536 - (Y / 65536+8192):=by omega
  have g2:X / 65536+(Y / 65536+8192)<=H / 65536:=by omega
  have g3:=Jd0 g1
  have g4:=Jd0 g2
  have g5:Ja3 (L / 65536)=L / 65536:=Jb4 (by omega)
  have g6:Ja3 (H / 65536)=H / 65536:=Jb4 (by omega)
  omega
 -- a face
 have ea:Jc5 m.A=⟨fun k=>Je1 (lo3 m.A k) 8192,fun k=>Jc7 (hi3 m.A k) 8192⟩:=by unfold Jc5;rw [if_neg hk0]
 have eb:Jc5 { m.B with kind:=m.A.kind }=⟨fun k=>Je1 (lo3 m.B k) 8192,fun k=>Jc7 (hi3 m.B k) 8192⟩:=by unfold Jc5;rw [if_neg hk0];rfl
 have et:Jc5 (atM m t)=⟨fun k=>Je1 (lo3 (atM m t) k) 8192,fun k=>Jc7 (hi3 (atM m t) k) 8192⟩:=by unfold Jc5;rw [if_neg (show ¬(atM m t).kind=0 from hk0)]
 rw [et] at hh
 simp only [Jm9,ea,eb] at al ah bl bh ⊢
 have un:∀ z:Int,-2147483648<Ja3 (Ja3 z)/\Ja3 (Ja3 z)<2147483648->Ja3 z=z:=fun z hz=>by unfold Ja3 at hz ⊢;(repeat' split at hz)<;>(repeat' split)<;>omega
 obtain ⟨a,hA⟩:∃ a,a=Ja3 (lo3 m.A k):=⟨_,rfl⟩
 obtain ⟨b,hB⟩:∃ b,b=Ja3 (lo3 m.B k):=⟨_,rfl⟩
 obtain ⟨c,hC⟩:∃ c,c=Ja3 (hi3 m.A k):=⟨_,rfl⟩
 obtain ⟨d,hD⟩:∃ d,d=Ja3 (hi3 m.B k):=⟨_,rfl⟩
 have s1:Je1 (lo3 m.A k) 8192=a - 8192:=by unfold Je1 at al ⊢;rw [h8,<-hA] at al ⊢;exact un _ al
 have s2:Jc7 (hi3 m.A k) 8192=c+8192:=by unfold Jc7 at ah ⊢;rw [h8,<-hC] at ah ⊢;exact un _ ah
 have s3:Je1 (lo3 m.B k) 8192=b - 8192:=by unfold Je1 at bl ⊢;rw [h8,<-hB] at bl ⊢;exact un _ bl
 have s4:Jc7 (hi3 m.B k) 8192=d+8192:=by unfold Jc7 at bh ⊢;rw [h8,<-hD] at bh ⊢;exact un _ bh
 rw [s1,s2,s3,s4]
 have i1:Ja3 (a - 8192)=a - 8192:=by rw [<-s1];exact Jb4 (Jc6 _)
 have i2:Ja3 (c+8192)=c+8192:=by rw [<-s2];exact Jb4 (Jc6 _)
 have i3:Ja3 (b - 8192)=b - 8192:=by rw [<-s3];exact Jb4 (Jc6 _)
 have i4:Ja3 (d+8192)=d+8192:=by rw [<-s4];exact Jb4 (Jc6 _)
 obtain ⟨i,hi,ei⟩:=Xm2 (atM m t) k
 obtain ⟨j,hj,ej⟩:=Xn3 (atM m t) k
 dsimp only at hh
 rw [ei,ej] at hh
 simp only [atM] at hh
 have mi:Je9 (lo3 m.A k) (lo3 m.B k) t<=Je9 (m.A.P i k) (m.B.P i k) t:=Ju7 t (Jd0 (Vz6 _ _ _ hi)) (Jd0 (Vz6 _ _ _ hi))
 have mj:Je9 (m.A.P j k) (m.B.P j k) t<=Je9 (hi3 m.A k) (hi3 m.B k) t:=Ju7 t (Jd0 (Vz9 _ _ _ hj)) (Jd0 (Vz9 _ _ _ hj))
 obtain ⟨X,u,x1,x2,x3,x4⟩:=Jp0 (lo3 m.A k) (lo3 m.B k) t
 obtain ⟨Y,u2,y1,y2,y3,y4⟩:=Jp0 (hi3 m.A k) (hi3 m.B k) t
 obtain ⟨L,uL,l1,l2,l3,l4⟩:=Jp0 (a - 8192) (b - 8192) t
 obtain ⟨H,uH,k1,k2,k3,k4⟩:=Jp0 (c+8192) (d+8192) t
 rw [i1,i3] at l1 l4
 rw [i2,i4] at k1 k4
 rw [<-hA,<-hB] at x1 x4
 rw [<-hC,<-hD] at y1 y4
 subst x2;subst y2;subst l2;subst k2
 have eL:L=X - 8192*65536:=by rw [l1,x1];simp only [Int.sub_mul,Int.mul_sub];omega
 have eH:H=Y+8192*65536:=by rw [k1,y1];simp only [Int.add_mul,Int.mul_sub];omega
 rw [l3,k3]
 rw [x3] at mi
 rw [y3] at mj
 have b1:=Qm0 (m.A.P i k) (m.B.P i k) t
 have b2:=Qm0 (m.A.P j k) (m.B.P j k) t
 unfold Je1 Jc7 at hh
 rw [h8,Jb4 b1,Jb4 b2] at hh
 have g1:L / 65536<=Je9 (m.A.P i k) (m.B.P i k) t - 8192:=by omega
 have g2:Je9 (m.A.P j k) (m.B.P j k) t+8192<=H / 65536:=by omega
 have g3:=Jd0 g1
 have g4:=Jd0 g2
 have g5:Ja3 (L / 65536)=L / 65536:=Jb4 (by rw [<-l3];exact Qm0 _ _ _)
 have g6:Ja3 (H / 65536)=H / 65536:=Jb4 (by rw [<-k3];exact Qm0 _ _ _)
 omega
theorem Vf7 {p q:PR}{t:Int}{x:V}(h:Ka9 (atP p t) x):Ka9 (atP (Qd3 p q) t) x:=fun k hk=>by
 have h1:=h k hk
 have h2:Je9 (minI (p.a.lo k) (q.a.lo k)) (minI (p.b.lo k) (q.b.lo k)) t<=Je9 (p.a.lo k) (p.b.lo k) t:=Ju7 t (Jd0 (Kn0 _ _)) (Jd0 (Kn0 _ _))
 have h3:Je9 (p.a.hi k) (p.b.hi k) t<=Je9 (maxI (p.a.hi k) (q.a.hi k)) (maxI (p.b.hi k) (q.b.hi k)) t:=Ju7 t (Jd0 (Kf4 _ _)) (Jd0 (Kf4 _ _))
 exact ⟨Int.le_trans h2 h1.1,Int.le_trans h1.2 h3⟩
theorem Vf6 {p q:PR}{t:Int}{x:V}(h:Ka9 (atP q t) x):Ka9 (atP (Qd3 p q) t) x:=fun k hk=>by
 have h1:=h k hk
 have h2:Je9 (minI (p.a.lo k) (q.a.lo k)) (minI (p.b.lo k) (q.b.lo k)) t<=Je9 (q.a.lo k) (q.b.lo k) t:=Ju7 t (Jd0 (Km9 _ _)) (Jd0 (Km9 _ _))
 have h3:Je9 (q.a.hi k) (q.b.hi k) t<=Je9 (maxI (p.a.hi k) (q.a.hi k)) (maxI (p.b.hi k) (q.b.hi k)) t:=Ju7 t (Jd0 (Kf3 _ _)) (Jd0 (Kf3 _ _))
 exact ⟨Int.le_trans h2 h1.1,Int.le_trans h1.2 h3⟩
structure RY where
 (o d:V) (part:Int)
def Je3 (r:RY)(t:Int):V:=fun k=>Jc7 (r.o k) (Jd3 (r.d k) t)
def Ka0 (r:RY)(a b:Int):BX:=⟨fun k=>minI (Je3 r a k) (Je3 r b k),fun k=>maxI (Je3 r a k) (Je3 r b k)⟩
def Ju6 (b c:BX):Prop:=∀ k,k<3->¬c.hi k<b.lo k/\¬b.hi k<c.lo k
theorem Vm3 (r:RY){a b t:Int}(h1:a<=t)(h2:t<=b):Ka9 (Ka0 r a b) (Je3 r t):=fun k _=>by
 show minI (Je3 r a k) (Je3 r b k)<=Je3 r t k/\Je3 r t k<=maxI (Je3 r a k) (Je3 r b k)
 have m1:=Kn0 (Je3 r a k) (Je3 r b k)
 have m2:=Km9 (Je3 r a k) (Je3 r b k)
 have m3:=Kf4 (Je3 r a k) (Je3 r b k)
 have m4:=Kf3 (Je3 r a k) (Je3 r b k)
 rcases Int.le_total 0 (Ja3 (r.d k)) with hd|hd
 ·have g1:Je3 r a k<=Je3 r t k:=Kj1 (Kg5 hd h1)
  have g2:Je3 r t k<=Je3 r b k:=Kj1 (Kg5 hd h2)
  omega
 have g1:Je3 r t k<=Je3 r a k:=Kj1 (Kg6 hd h1)
 have g2:Je3 r b k<=Je3 r t k:=Kj1 (Kg6 hd h2)
 omega
theorem Vq8 {b c:BX}{q:V}(h1:Ka9 b q)(h2:Ka9 c q):Ju6 b c:=fun k hk=>by
 have:=h1 k hk
 have:=h2 k hk
 omega
theorem ry_b (r:RY)(t:Int)(k:Nat):-2147483648<=Je3 r t k/\Je3 r t k<=2147483648:=Jc6 _
def okT (p:Int->Bool)(near far t:Int):Bool:=decide (near<t/\t<=far)&&p t
def Xn2 (l:List Int)(p:Int->Bool)(near far:Int):Option Int:=l.find? (okT p near far)
theorem Qm8 {p:Int->Bool}{near far far':Int}(h:far'<=far):∀ {l:List Int},l.Pairwise (·<=·)->Xn2 l p near far'=(Xn2 l p near far).filter fun t=>decide (t<=far')
 | [],_=>rfl
 | t::l,hs=>by
  rw [List.pairwise_cons] at hs
  have ih:=Qm8 (p:=p) (near:=near) h hs.2
  unfold Xn2 at ih ⊢
  rw [List.find?_cons,List.find?_cons]
  by_cases h1:okT p near far t=true
  ·rw [h1]
   by_cases h2:t<=far'
   ·have h3:okT p near far' t=true:=by
     unfold okT at h1 ⊢
     simp only [Bool.and_eq_true,decide_eq_true_eq] at h1 ⊢
     exact ⟨⟨h1.1.1,h2⟩,h1.2⟩
    rw [h3];simp [Option.filter,h2]
   have h3:okT p near far' t=false:=by
    unfold okT;rw [decide_eq_false (fun q=>h2 q.2)];rfl
   rw [h3]
   have h4:List.find? (okT p near far') l=none:=by
    rw [List.find?_eq_none]
    intro x hx hq
    unfold okT at hq
    simp only [Bool.and_eq_true,decide_eq_true_eq] at hq
    have:=hs.1 x hx
    omega
   simp only [h4]
   simp [Option.filter,h2]
  have h1':okT p near far t=false:=by simpa using h1
  have h3:okT p near far' t=false:=by
   cases h5:okT p near far' t with
   | false=>rfl
   | true =>
    unfold okT at h5 h1'
    simp only [Bool.and_eq_true,decide_eq_true_eq] at h5
    rw [decide_eq_true (show near<t/\t<=far from ⟨h5.1.1,by omega⟩),h5.2] at h1'
    cases h1'
  rw [h1',h3];exact ih
theorem Xa3 {l:List Int}{p:Int->Bool}{near far t:Int}(h:Xn2 l p near far=some t):near<t/\t<=far/\p t=true/\t ∈ l:=by
 have h1:=List.find?_some h
 have h2:=List.mem_of_find?_eq_some h
 unfold okT at h1
 simp only [Bool.and_eq_true,decide_eq_true_eq] at h1
 exact ⟨h1.1.1,h1.1.2,h1.2,h2⟩
def Bst (H:Nat->Option Int)(S:Nat->Prop):Option (Int × Nat)->Prop
 | none=>∀ i,S i->H i=none
 | some (t,i)=>S i/\H i=some t/\∀ j,S j->∀ u,H j=some u->t<u\/(t=u/\i<=j)
theorem Bst.uniq {H:Nat->Option Int}{S:Nat->Prop}{a b:Option (Int × Nat)}(ha:Bst H S a)(hb:Bst H S b):a=b:=by
 match a,b,ha,hb with
 | none,none,_,_=>rfl
 | none,some (t,i),ha,hb=>have:=ha i hb.1;rw [hb.2.1] at this;cases this
 | some (t,i),none,ha,hb=>have:=hb i ha.1;rw [ha.2.1] at this;cases this
 | some (t,i),some (u,j),ha,hb =>
  have h1:=ha.2.2 j hb.1 u hb.2.1
  have h2:=hb.2.2 i ha.1 t ha.2.1
  have e1:t=u:=by omega
  have e2:i=j:=by omega
  rw [e1,e2]
theorem Bst.congr {H:Nat->Option Int}{S S':Nat->Prop}{b:Option (Int × Nat)}(h:∀ i,S i↔S' i)(hb:Bst H S b):Bst H S' b:=by
 match b,hb with
 | none,hb=>exact fun i hi=>hb i ((h i).2 hi)
 | some (t,i),hb=>exact ⟨(h i).1 hb.1,hb.2.1,fun j hj=>hb.2.2 j ((h j).2 hj)⟩
def Kx7 (b:Option (Int × Nat))(i:Nat)(h:Option Int):Option (Int × Nat) :=
 match h,b with
 | none,b=>b
 | some t,none=>some (t,i)
 | some t,some (u,j)=>if t<u\/(t=u/\i<j) then some (t,i) else some (u,j)
theorem Bst.step {H:Nat->Option Int}{S:Nat->Prop}{b:Option (Int × Nat)}(hb:Bst H S b)(i:Nat):Bst H (fun j=>S j\/j=i) (Kx7 b i (H i)):=by
 unfold Kx7
 match hh:H i,b,hb with
 | none,none,hb=>rintro j (hj|rfl);exact hb j hj;exact hh
 | none,some (u,k),hb =>
  refine ⟨.inl hb.1,hb.2.1,?_⟩
  rintro j (hj|rfl) w hw
  ·exact hb.2.2 j hj w hw
  rw [hh] at hw;cases hw
 | some t,none,hb =>
  refine ⟨.inr rfl,hh,?_⟩
  rintro j (hj|rfl) w hw
  ·rw [hb j hj] at hw;cases hw
  rw [hh] at hw;injection hw with hw;right;exact ⟨hw,Nat.le_refl _⟩
 | some t,some (u,k),hb =>
  by_cases hc:t<u\/(t=u/\i<k)
  ·simp only [if_pos hc]
   refine ⟨.inr rfl,hh,?_⟩
   rintro j (hj|rfl) w hw
   ·have:=hb.2.2 j hj w hw;omega
   rw [hh] at hw;injection hw with hw;right;exact ⟨hw,Nat.le_refl _⟩
  simp only [if_neg hc]
  refine ⟨.inl hb.1,hb.2.1,?_⟩
  rintro j (hj|rfl) w hw
  ·exact hb.2.2 j hj w hw
  rw [hh] at hw;injection hw with hw;omega
def Jo8 (far:Int):Option (Int × Nat)->Int
 | none=>far
 | some (t,_)=>t
theorem Bst.skip {H:Nat->Option Int}{S T:Nat->Prop}{b:Option (Int × Nat)}{far:Int}(hH:∀ i t,H i=some t->t<=far)(hb:Bst H S b)(hT:∀ i,T i->∀ t,H i=some t->Jo8 far b<t):Bst H (fun j=>S j\/T j) b:=by
 match b,hb,hT with
 | none,hb,hT =>
  rintro j (hj|hj)
  ·exact hb j hj
  match hh:H j with
  | none=>rfl
  | some t =>
   have h1:=hT j hj t hh
   have h2:=hH j t hh
   simp only [Jo8] at h1;omega
 | some (t,i),hb,hT =>
  refine ⟨.inl hb.1,hb.2.1,?_⟩
  rintro j (hj|hj) w hw
  ·exact hb.2.2 j hj w hw
  left;exact hT j hj w hw
theorem Bst.far {H:Nat->Option Int}{S:Nat->Prop}{b:Option (Int × Nat)}{far:Int}(hH:∀ i t,H i=some t->t<=far)(hb:Bst H S b):Jo8 far b<=far:=by
 match b,hb with
 | none,_=>exact Int.le_refl _
 | some (t,i),hb=>exact hH i t hb.2.1
theorem Vw2 {H:Nat->Option Int}{S:Nat->Prop}{b:Option (Int × Nat)}{far:Int}(hH:∀ i t,H i=some t->t<=far)(i:Nat):Kx7 b i ((H i).filter fun t=>decide (t<=Jo8 far b))=Kx7 b i (H i):=by
 match hh:H i,b with
 | none,b=>rfl
 | some t,none=>simp [Option.filter,Jo8,hH i t hh]
 | some t,some (u,j) =>
  by_cases h:t<=u
  ·simp [Option.filter,Jo8,h]
  simp only [Option.filter,Jo8,decide_eq_true_eq,h,if_false,Kx7]
  rw [if_neg (by omega)]
def Jg8 (H:Nat->Option Int):Nat->Option (Int × Nat)
 | 0=>none
 | n+1=>Kx7 (Jg8 H n) n (H n)
theorem Qj1 (H:Nat->Option Int):∀ n,Bst H (fun i=>i<n) (Jg8 H n)
 | 0=>fun i hi=>by omega
 | n+1=>((Qj1 H n).step n).congr fun i=>by omega
inductive TR where
 | leaf (at':Nat)
 | node (at':Nat) (l r:TR)
def TR.root:TR->Nat
 | .leaf a=>a
 | .node a _ _=>a
def TR.size:TR->Nat
 | .leaf _=>1
 | .node _ l r=>l.size+r.size+1
structure ND where
 (p:PR) (left right first count:Int)
inductive Fit (N:Nat->ND)(C:Nat->Nat->Prop):TR->Nat->Nat->Prop
 | leaf (a from' to:Nat) (h:from'<to) (h4:to<=from'+4) (hf:(N a).first=from') (hc:(N a).count=((to - from':Nat):Int)) (hC:∀ x,from'<=x->x<to->C a x):Fit N C (.leaf a) from' to
 | node (a:Nat) (l r:TR) (from' mid to:Nat) (hc:(N a).count=0) (hl:(N a).left=(l.root:Int)) (hr:(N a).right=(r.root:Int)) (fl:Fit N C l from' mid) (fr:Fit N C r mid to) (hC:∀ x,from'<=x->x<to->C a x):Fit N C (.node a l r) from' to
theorem Fit.lt {N:Nat->ND}{C:Nat->Nat->Prop}{t:TR}{a b:Nat}(h:Fit N C t a b):a<b:=by
 induction h with
 | leaf _ _ _ h=>exact h
 | node _ _ _ _ _ _ _ _ _ _ _ _ h1 h2=>omega
theorem Fit.cov {N:Nat->ND}{C:Nat->Nat->Prop}{t:TR}{a b:Nat}(h:Fit N C t a b):∀ x,a<=x->x<b->C t.root x:=by
 cases h with
 | leaf _ _ _ _ _ _ _ hC=>exact hC
 | node _ _ _ _ _ _ _ _ _ _ _ hC=>exact hC
def Jc1 (prs:Nat->PR):List Nat->PR
 | []=>⟨⟨fun _=>0,fun _=>0⟩,⟨fun _=>0,fun _=>0⟩⟩
 | i::l=>l.foldl (fun p j=>Qd3 p (prs j)) (prs i)
def Jq2 (p:PR):BX:=Vs7 p.a p.b
def Ju2 (b:BX):V:=fun k=>Je1 (b.hi k) (b.lo k)
def Kz1 (b:BX):Int:=Jc7 (Jc7 (Jc7 0 (Jd3 (Ju2 b 0) (Ju2 b 1))) (Jd3 (Ju2 b 1) (Ju2 b 2))) (Jd3 (Ju2 b 2) (Ju2 b 0))
def Jp3 (prs:Nat->PR)(l:List Nat):Int:=(l.length:Int)*Kz1 (Jq2 (Jc1 prs l))
def Xy2 (b:BX):V:=fun k=>Je9 (b.lo k) (b.hi k) 32768
def Kd3 (mid:Nat->V):List Nat->V
 | []=>fun _=>0
 | i::l=>l.foldl (fun a j=>fun k=>minI (a k) (mid j k)) (mid i)
def Ve1 (mid:Nat->V):List Nat->V
 | []=>fun _=>0
 | i::l=>l.foldl (fun a j=>fun k=>maxI (a k) (mid j k)) (mid i)
def Jz8 (v:V):Nat:=if Jj0 (v 0)<Jj0 (v 1) then 1 else 0
def Jh2 (v:V):Nat:=if Jj0 (v (Jz8 v))<Jj0 (v 2) then 2 else Jz8 v
theorem Jw8 (v:V):Jh2 v<3:=by unfold Jh2 Jz8;(repeat' split)<;>omega
def binI (x low wide:Int):Int:=minI (Ja3 (Jd3 524288 (Je4 (Je1 x low) wide)) / 65536) 7
def Jq9 (mid:Nat->V)(l:List Nat):V:=Ju2 ⟨Kd3 mid l,Ve1 mid l⟩
def axL (mid:Nat->V)(l:List Nat):Nat:=Jh2 (Jq9 mid l)
def lowL (mid:Nat->V)(l:List Nat):Int:=Kd3 mid l (axL mid l)
def Qq1 (mid:Nat->V)(l:List Nat):Int:=Jq9 mid l (axL mid l)
def Qc0 (mid:Nat->V)(l:List Nat)(c i:Nat):Bool:=decide (binI (mid i (axL mid l)) (lowL mid l) (Qq1 mid l)<(c:Int))
def Jf2 (mid:Nat->V)(l:List Nat)(c:Nat):List Nat:=l.filter (Qc0 mid l c)
def Jd6 (mid:Nat->V)(l:List Nat)(c:Nat):List Nat:=l.filter fun i=>!Qc0 mid l c i
def Vv7 (prs:Nat->PR)(mid:Nat->V)(l:List Nat)(c:Nat)(st:Option (List Nat × Nat × Int)):Option (List Nat × Nat × Int) :=
 if Jf2 mid l c=[]\/Jd6 mid l c=[] then st else
  match st with
  | none=>some (Jf2 mid l c++Jd6 mid l c,(Jf2 mid l c).length,Jp3 prs (Jf2 mid l c)+Jp3 prs (Jd6 mid l c))
  | some (b,m,q)=>if Jp3 prs (Jf2 mid l c)+Jp3 prs (Jd6 mid l c)<q then some (Jf2 mid l c++Jd6 mid l c,(Jf2 mid l c).length,Jp3 prs (Jf2 mid l c)+Jp3 prs (Jd6 mid l c)) else some (b,m,q)
def Jp8 (prs:Nat->PR)(mid:Nat->V)(l:List Nat):Nat->Option (List Nat × Nat × Int)
 | 0=>none
 | c+1=>Vv7 prs mid l (c+1) (Jp8 prs mid l c)
def Jm1 (prs:Nat->PR)(mid:Nat->V)(l:List Nat):List Nat × Nat :=
 if Qq1 mid l<=0 then (l,l.length / 2) else
  match Jp8 prs mid l 7 with
  | none=>(l,l.length / 2)
  | some (b,m,_)=>(b,m)
def OkC (l:List Nat):Option (List Nat × Nat × Int)->Prop
 | none=>True
 | some (b,m,_)=>b.Perm l/\0<m/\m<l.length
theorem Xk0 {prs:Nat->PR}{mid:Nat->V}{l:List Nat}(c:Nat){st:Option (List Nat × Nat × Int)}(h:OkC l st):OkC l (Vv7 prs mid l c st):=by
 unfold Vv7
 split
 ·exact h
 rename_i hne
 have hp:(Jf2 mid l c++Jd6 mid l c).Perm l:=List.filter_append_perm _ _
 have hl:(Jf2 mid l c).length+(Jd6 mid l c).length=l.length:=by rw [<-List.length_append];exact hp.length_eq
 have h1:0<(Jf2 mid l c).length:=List.length_pos_iff.2 fun e=>hne (.inl e)
 have h2:0<(Jd6 mid l c).length:=List.length_pos_iff.2 fun e=>hne (.inr e)
 match st,h with
 | none,_=>exact ⟨hp,h1,by omega⟩
 | some (b,m,q),h =>
  show OkC l (if _ then _ else _)
  split
  ·exact ⟨hp,h1,by omega⟩
  exact h
theorem Ki2 {prs:Nat->PR}{mid:Nat->V}{l:List Nat}:∀ c,OkC l (Jp8 prs mid l c)
 | 0=>trivial
 | c+1=>Xk0 (c+1) (Ki2 c)
theorem Kt7 {prs:Nat->PR}{mid:Nat->V}{l:List Nat}(h:2<=l.length):(Jm1 prs mid l).1.Perm l/\0<(Jm1 prs mid l).2/\(Jm1 prs mid l).2<l.length:=by
 unfold Jm1
 split
 ·exact ⟨List.Perm.refl _,by show 0<l.length / 2;omega,by show l.length / 2<_;omega⟩
 have:=Ki2 (prs:=prs) (mid:=mid) (l:=l) 7
 match hh:Jp8 prs mid l 7,this with
 | none,_=>exact ⟨List.Perm.refl _,by show 0<l.length / 2;omega,by show l.length / 2<_;omega⟩
 | some (b,m,q),h=>exact h
theorem Qs9 {prs:Nat->PR}{t:Int}{x:V}:∀ {l:List Nat} {i:Nat},i ∈ l->Ka9 (atP (prs i) t) x->Ka9 (atP (Jc1 prs l) t) x:=by
 have key:∀ (l:List Nat) (p:PR),(Ka9 (atP p t) x\/∃ j,j ∈ l/\Ka9 (atP (prs j) t) x)->Ka9 (atP (l.foldl (fun p j=>Qd3 p (prs j)) p) t) x:=by
  intro l
  induction l with
  | nil =>
   intro p h
   rcases h with h|⟨j,hj,_⟩
   ·exact h
   cases hj
  | cons a l ih =>
   intro p h
   refine ih (Qd3 p (prs a)) ?_
   rcases h with h|⟨j,hj,h⟩
   ·exact .inl (Vf7 h)
   rcases List.mem_cons.1 hj with rfl|hj
   ·exact .inl (Vf6 h)
   exact .inr ⟨j,hj,h⟩
 intro l i hi h
 cases l with
 | nil=>cases hi
 | cons a l =>
  refine key l (prs a) ?_
  rcases List.mem_cons.1 hi with rfl|hi
  ·exact .inl h
  exact .inr ⟨i,hi,h⟩
def Jk3 (o:List Nat)(a b:Nat):List Nat:=(o.drop a).take (b - a)
def Jw2 (o:List Nat)(a b:Nat)(l:List Nat):List Nat:=o.take a++(l++o.drop b)
def Jt1 (prs:Nat->PR)(mid:Nat->V):Nat->Nat->Nat->List Nat × List ND->List Nat × List ND
 | 0,_,_,st=>st
 | f+1,a,b,(o,nds) =>
  if b - a<=4 then (o,nds++[⟨Jc1 prs (Jk3 o a b),-1,-1,(a:Int),((b - a:Nat):Int)⟩]) else
   let sp:=Jm1 prs mid (Jk3 o a b)
   let s1:=Jt1 prs mid f a (a+sp.2) (Jw2 o a b sp.1,nds++[⟨Jc1 prs (Jk3 o a b),-1,-1,0,0⟩])
   let s2:=Jt1 prs mid f (a+sp.2) b s1
   (s2.1,s2.2.set nds.length ⟨Jc1 prs (Jk3 o a b),((nds.length+1:Nat):Int),((s1.2.length:Nat):Int),0,0⟩)
theorem Jf8 {o:List Nat}{a b:Nat}(hb:b<=o.length):(Jk3 o a b).length=b - a:=by
 unfold Jk3;rw [List.length_take,List.length_drop];omega
theorem Kc1 {o:List Nat}{a b x:Nat}(h1:a<=x)(h2:x<b):(Jk3 o a b)[x - a]?=o[x]?:=by
 unfold Jk3
 rw [List.getElem?_take_of_lt (by omega),List.getElem?_drop];congr 1;omega
theorem Kc7 {o l:List Nat}{a b:Nat}(hab:a<=b)(hb:b<=o.length)(hl:l.length=b - a):(Jw2 o a b l).length=o.length:=by
 unfold Jw2;simp only [List.length_append,List.length_take,List.length_drop,hl];omega
theorem Vb6 {o l:List Nat}{a b x:Nat}(hb:b<=o.length)(hab:a<=b)(hl:l.length=b - a)(h1:a<=x)(h2:x<b):(Jw2 o a b l)[x]?=l[x - a]?:=by
 have e:(o.take a).length=a:=by rw [List.length_take];omega
 unfold Jw2
 rw [List.getElem?_append_right (by omega),e,List.getElem?_append_left (by omega)]
theorem Qk6 {o l:List Nat}{a b x:Nat}(hb:b<=o.length)(hab:a<=b)(hl:l.length=b - a)(h:x<a\/b<=x):(Jw2 o a b l)[x]?=o[x]?:=by
 have e:(o.take a).length=a:=by rw [List.length_take];omega
 unfold Jw2
 rcases h with h|h
 ·rw [List.getElem?_append_left (by omega),List.getElem?_take_of_lt h]
 rw [List.getElem?_append_right (by omega),e,List.getElem?_append_right (by omega),List.getElem?_drop,hl];congr 1;omega
def Xb6 (o o':List Nat)(a b:Nat):Prop:=(Jk3 o a b).Perm (Jk3 o' a b)/\∀ x,x<a\/b<=x->o'[x]?=o[x]?
theorem Jy6 {o:List Nat}{a m b:Nat}(h1:a<=m)(h2:m<=b):Jk3 o a b=Jk3 o a m++Jk3 o m b:=by
 unfold Jk3
 have e1:b - a=(m - a)+(b - m):=by omega
 rw [e1,List.take_add,List.drop_drop]
 congr 2
 congr 1;omega
theorem Jt9 {o o':List Nat}{a b:Nat}(h:∀ x,a<=x->x<b->o'[x]?=o[x]?):Jk3 o' a b=Jk3 o a b:=by
 refine List.ext_getElem? fun i=>?_
 unfold Jk3
 rw [List.getElem?_take,List.getElem?_take]
 split
 ·rw [List.getElem?_drop,List.getElem?_drop];exact h _ (by omega) (by omega)
 rfl
structure NodeOk (prs:Nat->PR)(st st':List Nat × List ND)(a b:Nat):Prop where
 same:Xb6 st.1 st'.1 a b
 len:st'.1.length=st.1.length
 pre:∀ i,i<st.2.length->st'.2[i]?=st.2[i]?
 lt:st.2.length<st'.2.length
 fit:∀ (o:List Nat) (N:Nat->ND),(Jk3 o a b).Perm (Jk3 st'.1 a b)->(∀ x,a<=x->x<b->o[x]?=st'.1[x]?)->(∀ i nd,st.2.length<=i->st'.2[i]?=some nd->N i=nd) ->
  ∃ t,Fit N (fun at' x=>∀ i u q,o[x]?=some i->Ka9 (atP (prs i) u) q->Ka9 (atP (N at').p u) q) t a b/\t.root=st.2.length
theorem Ka6 {prs:Nat->PR}{mid:Nat->V}:∀ (f a b:Nat) (st:List Nat × List ND),b - a<=f->a<b->b<=st.1.length->NodeOk prs st (Jt1 prs mid f a b st) a b
 | 0,a,b,st,hf,hab,_=>by omega
 | f+1,a,b,(o,nds),hf,hab,hb=>by
  have hb':b<=o.length:=hb
  have cov:∀ (p:List Nat) (N:Nat->ND) (at':Nat),(N at').p=Jc1 prs (Jk3 o a b)->(Jk3 p a b).Perm (Jk3 o a b)->∀ x,a<=x->x<b->∀ i u q,p[x]?=some i->Ka9 (atP (prs i) u) q->Ka9 (atP (N at').p u) q:=by
   intro p N at' hN hp x h1 h2 i u q hi hq
   rw [hN]
   refine Qs9 (hp.mem_iff.1 ?_) hq
   have:=Kc1 (o:=p) h1 h2
   rw [hi] at this
   exact List.mem_of_getElem? this
  unfold Jt1
  by_cases h4:b - a<=4
  ·rw [if_pos h4]
   refine ⟨⟨List.Perm.refl _,fun _ _=>rfl⟩,rfl,fun i hi=>List.getElem?_append_left hi,by simp,?_⟩
   intro p N hp _ hN
   have hN0:=hN nds.length _ (Nat.le_refl _) (by simp;rfl)
   refine ⟨.leaf nds.length,Fit.leaf _ _ _ hab (by omega) (by rw [hN0]) (by rw [hN0]) ?_,rfl⟩
   exact cov p N nds.length (by rw [hN0]) hp
  rw [if_neg h4]
  have hsl:=Jf8 (a:=a) hb'
  obtain ⟨hperm,hm0,hm1⟩:=Kt7 (prs:=prs) (mid:=mid) (l:=Jk3 o a b) (by omega)
  obtain ⟨sp,hsp⟩:∃ sp,sp=Jm1 prs mid (Jk3 o a b):=⟨_,rfl⟩
  rw [<-hsp] at hperm hm0 hm1 ⊢
  rw [hsl] at hm1
  have hl1:sp.1.length=b - a:=by rw [hperm.length_eq,hsl]
  obtain ⟨o1,ho1⟩:∃ o1,o1=Jw2 o a b sp.1:=⟨_,rfl⟩
  obtain ⟨n1,hn1⟩:∃ n1,n1=nds++[(⟨Jc1 prs (Jk3 o a b),-1,-1,0,0⟩:ND)]:=⟨_,rfl⟩
  have ol1:o1.length=o.length:=by rw [ho1];exact Kc7 (by omega) hb' hl1
  have nl1:n1.length=nds.length+1:=by rw [hn1];simp
  dsimp only
  rw [<-ho1,<-hn1]
  have k1:=Ka6 (prs:=prs) (mid:=mid) f a (a+sp.2) (o1,n1) (by omega) (by omega) (by show _<=o1.length;omega)
  obtain ⟨s1,hs1⟩:∃ s1,s1=Jt1 prs mid f a (a+sp.2) (o1,n1):=⟨_,rfl⟩
  rw [<-hs1] at k1 ⊢
  have sl1:s1.1.length=o.length:=k1.len.trans ol1
  have k2:=Ka6 (prs:=prs) (mid:=mid) f (a+sp.2) b s1 (by omega) (by omega) (by omega)
  obtain ⟨s2,hs2⟩:∃ s2,s2=Jt1 prs mid f (a+sp.2) b s1:=⟨_,rfl⟩
  rw [<-hs2] at k2 ⊢
  have q1:n1.length<s1.2.length:=k1.lt
  have q2:s1.2.length<s2.2.length:=k2.lt
  have e1:Jk3 o1 a b=sp.1:=by
   refine List.ext_getElem? fun i=>?_
   by_cases hi:i<b - a
   ·have:=Kc1 (o:=o1) (a:=a) (b:=b) (x:=a+i) (by omega) (by omega)
    rw [show a+i - a=i by omega] at this
    rw [this,ho1,Vb6 hb' (by omega) hl1 (by omega) (by omega),show a+i - a=i by omega]
   rw [List.getElem?_eq_none (by rw [Jf8 (by omega)];omega),List.getElem?_eq_none (by omega)]
  have p1:(Jk3 o1 a b).Perm (Jk3 s1.1 a b):=by
   rw [Jy6 (o:=o1) (m:=a+sp.2) (by omega) (by omega),Jy6 (o:=s1.1) (m:=a+sp.2) (by omega) (by omega)]
   refine List.Perm.append k1.same.1 ?_
   rw [Jt9 (o:=o1) (o':=s1.1) fun x h1 h2=>k1.same.2 x (.inr h1)]
  have p2:(Jk3 s1.1 a b).Perm (Jk3 s2.1 a b):=by
   rw [Jy6 (o:=s1.1) (m:=a+sp.2) (by omega) (by omega),Jy6 (o:=s2.1) (m:=a+sp.2) (by omega) (by omega)]
   refine List.Perm.append ?_ k2.same.1
   rw [Jt9 (o:=s1.1) (o':=s2.1) fun x h1 h2=>k2.same.2 x (.inl h2)]
  have p0:(Jk3 o a b).Perm (Jk3 s2.1 a b):=by
   have:(Jk3 o a b).Perm (Jk3 o1 a b):=by rw [e1];exact hperm.symm
   exact this.trans (p1.trans p2)
  refine ⟨⟨p0,fun x hx=>?_⟩,by show s2.1.length=_;rw [k2.len,sl1],fun i hi=>?_,by show nds.length<(s2.2.set _ _).length;rw [List.length_set];omega,?_⟩
  ·show s2.1[x]?=_
   rw [k2.same.2 x (by omega),k1.same.2 x (by omega)]
   show o1[x]?=_
   rw [ho1];exact Qk6 hb' (by omega) hl1 hx
  ·show (s2.2.set nds.length _)[i]?=nds[i]?
   have hi':i<nds.length:=hi
   rw [List.getElem?_set_ne (by omega),k2.pre i (by omega),k1.pre i (by show i<n1.length;omega)]
   show n1[i]?=_
   rw [hn1,List.getElem?_append_left hi']
  intro p N hp hpx hN
  have hN0:N nds.length=⟨Jc1 prs (Jk3 o a b),((nds.length+1:Nat):Int),((s1.2.length:Nat):Int),0,0⟩:=hN nds.length _ (Nat.le_refl _) (by
   show (s2.2.set nds.length _)[nds.length]?=_
   rw [List.getElem?_set_self (by omega)])
  have hN':∀ i nd,nds.length<i->s2.2[i]?=some nd->N i=nd:=fun i nd h1 h2=>hN i nd (by show nds.length<=i;omega) (by
   show (s2.2.set nds.length _)[i]?=_
   rw [List.getElem?_set_ne (by omega)];exact h2)
  have px:∀ x,a<=x->x<b->p[x]?=s2.1[x]?:=hpx
  obtain ⟨t1,f1,r1⟩:=k1.fit p N (by rw [Jt9 (o:=s1.1) (o':=p) fun x h1 h2=>by rw [px x h1 (by omega)];exact k2.same.2 x (.inl h2)]) (fun x h1 h2=>by rw [px x h1 (by omega)];exact k2.same.2 x (.inl h2))
   (fun i nd h1 h2=>by
    have h1':n1.length<=i:=h1
    have:i<s1.2.length:=(List.getElem?_eq_some_iff.1 h2).1
    exact hN' i nd (by omega) (by rw [k2.pre i this];exact h2))
  obtain ⟨t2,f2,r2⟩:=k2.fit p N (by rw [Jt9 (o:=s2.1) (o':=p) fun x h1 h2=>px x (by omega) h2]) (fun x h1 h2=>px x (by omega) h2)
   (fun i nd h1 h2=>hN' i nd (by omega) h2)
  refine ⟨.node nds.length t1 t2,Fit.node _ _ _ _ _ _ (by rw [hN0]) (by rw [hN0,r1];show _=((n1.length:Nat):Int);rw [nl1]) (by rw [hN0,r2]) f1 f2 ?_,rfl⟩
  refine cov p N nds.length (by rw [hN0]) ?_
  have:Jk3 p a b=Jk3 s2.1 a b:=Jt9 fun x h1 h2=>px x h1 h2
  rw [this];exact p0.symm
structure WInv (N:Nat->ND)(C:Nat->Nat->Prop)(n:Nat)(o:List Nat)(H:Nat->Option Int)(stk:List (TR × Nat × Nat))(b:Option (Int × Nat)):Prop where
 fit:∀ e,e ∈ stk->Fit N C e.1 e.2.1 e.2.2/\e.2.2<=n
 ex:∃ V:Nat->Prop,Bst H V b/\(∀ i,V i->i ∈ o)/\∀ (x i:Nat),o[x]?=some i->V i\/∃ e,e ∈ stk/\e.2.1<=x/\x<e.2.2
section
variable {N:Nat->ND}{C:Nat->Nat->Prop}{n:Nat}{o:List Nat}{H:Nat->Option Int}{stk:List (TR × Nat × Nat)}{b:Option (Int × Nat)}{t:TR}{a c:Nat}{far:Int}
theorem WInv.start (h:Fit N C t 0 n)(ho:o.length=n):WInv N C n o H [(t,0,n)] none :=
  ⟨fun e he=>by simp only [List.mem_cons,List.not_mem_nil,or_false] at he;subst he;exact ⟨h,Nat.le_refl _⟩,
   fun _=>False,fun i hi=>hi.elim,fun i hi=>hi.elim,fun x i hx=>.inr ⟨(t,0,n),List.mem_cons_self,Nat.zero_le _,by have:=(List.getElem?_eq_some_iff.1 hx).1;show x<n;omega⟩⟩
theorem WInv.miss (hH:∀ i t,H i=some t->t<=far)(h:WInv N C n o H ((t,a,c)::stk) b)(hT:∀ (x i:Nat),a<=x->x<c->o[x]?=some i->∀ u,H i=some u->Jo8 far b<u):WInv N C n o H stk b:=by
 obtain ⟨V,h1,h2,h3⟩:=h.ex
 refine ⟨fun e he=>h.fit e (List.mem_cons_of_mem _ he),fun i=>V i\/∃ x,a<=x/\x<c/\o[x]?=some i,h1.skip hH fun i ⟨x,q1,q2,q3⟩ u hu=>hT x i q1 q2 q3 u hu,?_,?_⟩
 ·rintro i (hi|⟨x,_,_,hx⟩)
  ·exact h2 i hi
  exact List.mem_of_getElem? hx
 intro x i hx
 rcases h3 x i hx with hv|⟨e,he,q1,q2⟩
 ·exact .inl (.inl hv)
 rcases List.mem_cons.1 he with rfl|he
 ·exact .inl (.inr ⟨x,q1,q2,hx⟩)
 exact .inr ⟨e,he,q1,q2⟩
theorem WInv.down {at':Nat}{l r:TR}(h:WInv N C n o H ((.node at' l r,a,c)::stk) b):∃ m,WInv N C n o H ((l,a,m)::(r,m,c)::stk) b:=by
 have h0:=h.fit _ List.mem_cons_self
 cases h0.1 with
 | node _ _ _ _ m _ hc hl hr fl fr hC =>
  refine ⟨m,?_,?_⟩
  ·intro e he
   rcases List.mem_cons.1 he with rfl|he
   ·exact ⟨fl,by have:=fr.lt;have:=h0.2;show m<=n;omega⟩
   rcases List.mem_cons.1 he with rfl|he
   ·exact ⟨fr,h0.2⟩
   exact h.fit e (List.mem_cons_of_mem _ he)
  obtain ⟨V,h1,h2,h3⟩:=h.ex
  refine ⟨V,h1,h2,fun x i hx=>?_⟩
  rcases h3 x i hx with hv|⟨e,he,q1,q2⟩
  ·exact .inl hv
  rcases List.mem_cons.1 he with rfl|he
  ·rcases Nat.lt_or_ge x m with hm|hm
   ·exact .inr ⟨_,List.mem_cons_self,q1,hm⟩
   exact .inr ⟨_,List.mem_cons_of_mem _ List.mem_cons_self,hm,q2⟩
  exact .inr ⟨e,List.mem_cons_of_mem _ (List.mem_cons_of_mem _ he),q1,q2⟩
def Jq3 (H:Nat->Option Int)(o:List Nat)(a:Nat)(b:Option (Int × Nat)):Nat->Option (Int × Nat)
 | 0=>b
 | k+1=>Kx7 (Jq3 H o a b k) (o.getD (a+k) 0) (H (o.getD (a+k) 0))
theorem Kw2 {V:Nat->Prop}(h:Bst H V b):∀ k,Bst H (fun i=>V i\/∃ x,x<k/\o.getD (a+x) 0=i) (Jq3 H o a b k)
 | 0=>h.congr fun i=>by simp
 | k+1=>((Kw2 h k).step (o.getD (a+k) 0)).congr fun i=>by
  constructor
  ·rintro ((hv|⟨x,hx,he⟩)|rfl)
   ·exact .inl hv
   ·exact .inr ⟨x,by omega,he⟩
   exact .inr ⟨k,by omega,rfl⟩
  rintro (hv|⟨x,hx,he⟩)
  ·exact .inl (.inl hv)
  rcases Nat.lt_or_ge x k with q|q
  ·exact .inl (.inr ⟨x,q,he⟩)
  have:x=k:=by omega
  subst this;exact .inr he.symm
theorem WInv.leaf (ho:o.length=n)(h:WInv N C n o H ((t,a,c)::stk) b)(hac:a<c):WInv N C n o H stk (Jq3 H o a b (c - a)):=by
 obtain ⟨V,h1,h2,h3⟩:=h.ex
 have hcn:c<=n:=(h.fit _ List.mem_cons_self).2
 refine ⟨fun e he=>h.fit e (List.mem_cons_of_mem _ he),_,Kw2 h1 (c - a),?_,?_⟩
 ·rintro i (hi|⟨x,hx,rfl⟩)
  ·exact h2 i hi
  rw [List.getD_eq_getElem?_getD,List.getElem?_eq_getElem (by omega)]
  exact List.getElem_mem _
 intro x i hx
 rcases h3 x i hx with hv|⟨e,he,q1,q2⟩
 ·exact .inl (.inl hv)
 rcases List.mem_cons.1 he with rfl|he
 ·have q1':a<=x:=q1
  have q2':x<c:=q2
  refine .inl (.inr ⟨x - a,by omega,?_⟩)
  rw [show a+(x - a)=x by omega,List.getD_eq_getElem?_getD,hx];rfl
 exact .inr ⟨e,he,q1,q2⟩
theorem WInv.all (ho:o.Perm (List.range n))(h:WInv N C n o H [] b):b=Jg8 H n:=by
 obtain ⟨V,h1,h2,h3⟩:=h.ex
 refine (h1.congr (S':=fun i=>i<n) fun i=>⟨fun hv=>?_,fun hi=>?_⟩).uniq (Qj1 H n)
 ·have:=ho.mem_iff.1 (h2 i hv);simpa using this
 have hm:i ∈ o:=ho.mem_iff.2 (by simpa using hi)
 obtain ⟨x,hx⟩:=List.getElem?_of_mem hm
 rcases h3 x i hx with hv|⟨e,he,_⟩
 ·exact hv
 cases he
theorem Vs3 {V:Nat->Prop}(hH:∀ i t,H i=some t->t<=far)(h:Bst H V b)(k:Nat):Jo8 far (Jq3 H o a b k)<=far:=(Kw2 (o:=o) (a:=a) h k).far hH
def Jz9:List (TR × Nat × Nat)->Nat
 | []=>0
 | e::l=>e.1.size+Jz9 l
theorem Kc2:∀ t:TR,0<t.size
 | .leaf _=>by show 0<1;omega
 | .node _ l r=>by show 0<l.size+r.size+1;omega
end
def il:Nat->(Nat->Int)->List CV
 | 0,_=>[]
 | n+1,f=>il n f++[.int .i64 (f n)]
theorem Jc9:∀ (n:Nat) (f:Nat->Int),(il n f).length=n
 | 0,_=>rfl
 | n+1,f=>by simp only [il,List.length_append,Jc9 n f,List.length_cons,List.length_nil]
theorem Kn8:∀ {n:Nat} {f:Nat->Int} {i:Nat},i<n->(il n f)[i]?=some (.int .i64 (f i))
 | n+1,f,i,hi=>by
  simp only [il]
  rcases Nat.lt_or_ge i n with h|h
  ·rw [List.getElem?_append_left (by rw [Jc9];omega)];exact Kn8 h
  have e:i=n:=by omega
  subst e
  rw [List.getElem?_append_right (by rw [Jc9];omega),Jc9,Nat.sub_self];rfl
theorem Jf1:∀ (L n:Nat) (f:Nat->Int),(il n f).all (CV.below L)=true
 | _,0,_=>rfl
 | L,n+1,f=>by simp only [il,List.all_append,Jf1 L n f,List.all_cons,List.all_nil,CV.below];rfl
def bl:Nat->(Nat->Bool)->List CV
 | 0,_=>[]
 | n+1,f=>bl n f++[.bool (f n)]
def rl:Nat->(Nat->Nat)->(Nat->Nat)->(Nat->Nat)->List CV
 | 0,_,_,_=>[]
 | n+1,r,vv,ln=>rl n r vv ln++[.sl (r n) (vv n) 0 (ln n)]
structure IntsAt (m:Ja1)(r v n:Nat)(f:Nat->Int):Prop where
 hb:∃ k ez,m[r]?=some ⟨k,3,v,ez,il n f⟩
structure BoolsAt (m:Ja1)(r v n:Nat)(f:Nat->Bool):Prop where
 hb:∃ k ez,m[r]?=some ⟨k,4,v,ez,bl n f⟩
structure RowsAt (m:Ja1)(r vp n:Nat)(ln:Nat->Nat)(q:Nat->Nat->Int):Prop where
 hb:∃ k ez rr vv,m[r]?=some ⟨k,68,vp,ez,rl n rr vv ln⟩/\∀ i,i<n->IntsAt m (rr i) (vv i) (ln i) (q i)
end Go.Proofs.YtaannomfigammaaGreat
namespace Go.Eng
section
variable {α:Type}(key:α->Int)
variable {a b:Nat}{f g h:Nat->α}
end
def Jb2:Nat->(Nat->List CV)->List CV
 | 0,_=>[]
 | n+1,F=>Jb2 n F++F n
section
variable {F G:Nat->List CV}{w n k:Nat}
theorem Ja6 (h:∀ i,(F i).length=w):∀ n,(Jb2 n F).length=n*w
 | 0=>by simp [Jb2]
 | n+1=>by rw [Jb2,List.length_append,Ja6 h n,h n,Nat.succ_mul]
theorem catC_congr:∀ {n:Nat},(∀ k,k<n->F k=G k)->Jb2 n F=Jb2 n G
 | 0,_=>rfl
 | n+1,h=>by rw [Jb2,Jb2,catC_congr fun k hk=>h k (by omega),h n (by omega)]
theorem Jz4 (h:∀ i,(F i).length=w):∀ {n k:Nat},k<n->∃ T,Jb2 n F=Jb2 k F++(F k++T)/\∀ v:List CV,Jb2 n (fun i=>if i=k then v else F i)=Jb2 k F++(v++T)
 | n+1,k,hk=>by
  rcases Nat.lt_or_ge k n with h1|h1
  ·obtain ⟨T,h2,h3⟩:=Jz4 h h1
   refine ⟨T++F n,by rw [Jb2,h2,List.append_assoc,List.append_assoc],fun v=>?_⟩
   rw [Jb2,h3 v,if_neg (show ¬n=k by omega),List.append_assoc,List.append_assoc]
  ·have e:k=n:=by omega
   subst e
   refine ⟨[],by simp [Jb2],fun v=>?_⟩
   simp only [Jb2,List.append_nil,if_true]
   rw [catC_congr (G:=F) fun i hi=>if_neg (by omega)]
theorem Jb7 (h:∀ i,(F i).length=w)(hk:k<n):((Jb2 n F).drop (k*w)).take w=F k:=by
 obtain ⟨T,h2,_⟩:=Jz4 h hk
 rw [h2,List.drop_left' (Ja6 h k),List.take_left' (h k)]
theorem Kf8 (h:∀ i,(F i).length=w)(hk:k<n){a b:Nat}(hab:a+b<=w):((Jb2 n F).drop (k*w+a)).take b=((F k).drop a).take b:=by
 have h1:=congrArg (fun l=>(l.drop a).take b) (Jb7 h hk)
 simp only [List.drop_take,List.drop_drop,List.take_take] at h1
 rwa [show min b (w - a)=b by omega] at h1
theorem Jg9 (h:∀ i,(F i).length=w)(hk:k<n){a:Nat}(ha:a<w):(Jb2 n F)[k*w+a]?=(F k)[a]?:=by
 obtain ⟨T,h2,_⟩:=Jz4 h hk
 have hl:=Ja6 h k
 have hf:=h k
 rw [h2,List.getElem?_append_right (by omega),hl,Nat.add_sub_cancel_left,List.getElem?_append_left (by omega)]
theorem Qy6 {α:Type}(vs l tl:List α)(hl:l.length=vs.length):∀ (pre:List α),setL (pre++(l++tl)) pre.length vs=pre++(vs++tl):=by
 have shift:∀ (vs l:List α) (x:α) (i:Nat),setL (x::l) (i+1) vs=x::setL l i vs:=by
  intro vs
  induction vs with
  | nil=>intro l x i;rfl
  | cons v vs ih=>intro l x i;simp only [setL,List.set_cons_succ];rw [ih]
 have pre0:∀ (vs l tl:List α),l.length=vs.length->setL (l++tl) 0 vs=vs++tl:=by
  intro vs
  induction vs with
  | nil=>intro l tl h;cases l with|nil=>rfl|cons a l=>simp at h
  | cons v vs ih =>
   intro l tl h
   cases l with
   | nil=>simp at h
   | cons a l =>
    simp only [List.cons_append,setL,List.set_cons_zero]
    rw [shift,ih l tl (by simpa using h)]
 intro pre
 induction pre with
 | nil=>exact pre0 vs l tl hl
 | cons x pre ih=>rw [List.cons_append,List.length_cons,shift,ih];rfl
theorem catC_set (h:∀ i,(F i).length=w)(hk:k<n){v:List CV}(hv:v.length=w):setL (Jb2 n F) (k*w) v=Jb2 n (fun i=>if i=k then v else F i):=by
 obtain ⟨T,h2,h3⟩:=Jz4 h hk
 have h4:=Qy6 v (F k) T (by rw [h k,hv]) (Jb2 k F)
 rw [Ja6 h k] at h4
 rw [h2,h3 v,h4]
theorem Jb8 (p:CV->Bool)(h:∀ i,(F i).all p=true):∀ n,(Jb2 n F).all p=true
 | 0=>rfl
 | n+1=>by rw [Jb2,List.all_append,Jb8 p h n,h n];rfl
end
variable {H:Type}{enc:TypeId × Value->H}
variable {P:Program}{nt:Nat}{tm:Tm}{mem:Ja1}
theorem RetP.dropM {m1:Ja1}{L:Nat}{rs:List ResultVar}{ret:AV}{extra:Ja1}{ex:Exit}(hl:m1.length=L)(hex:ex=.normal\/ex=.ret)(hres:Je0 P rs tm (m1++extra)=some ret)(hb:ret.below L=true)(hw:MWf L m1) :
  RetP P rs L ret m1 ex tm (m1++extra):=by
 subst hl;exact RetP.drop hex hres hb hw
theorem RetP.dropM0 {m1:Ja1}{L:Nat}{rs:List ResultVar}{ret:AV}{ex:Exit}(hl:m1.length=L)(hex:ex=.normal\/ex=.ret)(hres:Je0 P rs tm m1=some ret)(hb:ret.below L=true)(hw:MWf L m1) :
  RetP P rs L ret m1 ex tm m1:=by
 subst hl;exact RetP.drop0 hex hres hb hw
variable {P:Program}{m m':Ja1}
variable {P:Program}{nt:Nat}{tm:Tm}{mem:Ja1}{Q:Exit->Tm->Ja1->Prop}
section
variable {P:Program}{nt:Nat}{tm:Tm}{mem:Ja1}{Q:Exit->Tm->Ja1->Prop}
end
theorem AW.anyMemG {P:Program}{nt:Nat}{tm:Tm}{mem:Ja1}{Q:Exit->Tm->Ja1->Prop}{c:Code}(I:Ja1->Prop)(h0:I mem)(h:∀ M,I M->AW P nt c tm M Q):AW P nt c tm mem Q:=h mem h0
theorem AW.loopX {P:Program}{nt:Nat}{tm:Tm}{mem:Ja1}{Q:Exit->Tm->Ja1->Prop}{ι:Type}{c:Code}(keep:List Nat)(I:ι->Prop)(V:ι->Tm)(M:ι->Ja1)(μ:ι->Nat)(i:ι)(hi:I i)(hv:Keeps tm (V i))(hm:M i=mem)
  (hl:∀ j,I j->mem.length<=(M j).length)
  (h:∀ i,I i->AW P nt c (V i++Ja9 tm keep) (M i) (Thn (fun tm' mem'=>∃ j,I j/\μ j < μ i/\Weak nt tm' mem' (V j++Ja9 tm keep) (M j)) Q)):AW P nt (.loop c) tm mem Q:=by
 subst hm
 refine AW.weak (tm':=V i++Ja9 tm keep) (Keeps.append hv (Jv8 _ _)) ?_
 exact AL.loop (AL.inv I (fun j=>V j++Ja9 tm keep) M μ hl h (μ i) i hi (Nat.le_refl _))
end Go.Eng
namespace Go.Proofs.YtaannomfigammaaGreat
open Go Go.Eng
def iL (l:List Int):List CV:=l.map (CV.int .i64)
theorem Ks6 (l:List Int):(iL l).length=l.length:=List.length_map _
theorem Vf3 (l:List Int)(x:Int):iL l++[.int .i64 x]=iL (l++[x]):=by simp [iL]
theorem iL_at {l:List Int}{i:Nat}{x:Int}(h:l[i]?=some x):(iL l)[i]?=some (.int .i64 x):=by simp [iL,h]
theorem Jk5 (L:Nat)(l:List Int):(iL l).all (CV.below L)=true:=by simp only [iL,List.all_map,List.all_eq_true];intro _ _;rfl
theorem Vf2 (l:List Int):(iL l).all CV.isVal=true:=by simp only [iL,List.all_map,List.all_eq_true];intro _ _;rfl
def Jm3 (f:Nat->Bool):Nat->List Int
 | 0=>[]
 | n+1=>if f n=true then Jm3 f n++[(n:Int)] else Jm3 f n
theorem Kv7 (f:Nat->Bool):∀ n,(Jm3 f n).length<=n
 | 0=>Nat.le_refl _
 | n+1=>by
  have:=Kv7 f n
  unfold Jm3
  split
  ·simp;omega
  omega
theorem Xf7 (n:Nat):∃ r,r*r<=n/\n<(r+1)*(r+1):=by
 induction n with
 | zero=>exact ⟨0,by omega,by omega⟩
 | succ n ih =>
  obtain ⟨r,h1,h2⟩:=ih
  rcases Nat.lt_or_ge (n+1) ((r+1)*(r+1)) with h|h
  ·exact ⟨r,by omega,h⟩
  refine ⟨r+1,h,?_⟩
  have e:(r+1+1)*(r+1+1)=(r+1)*(r+1)+2*r+3:=by
   simp only [Nat.add_mul,Nat.mul_add];omega
  omega
structure IsRoot (a:Int)(r:Nat):Prop where
 pos:0<Ja3 a
 lo:(r:Int)*(r:Int)<=Ja3 a*65536
 hi:Ja3 a*65536<((r:Int)+1)*((r:Int)+1)
theorem Qf4 {a:Int}(h:0<Ja3 a):∃ r,IsRoot a r:=by
 obtain ⟨r,h1,h2⟩:=Xf7 (Ja3 a*65536).toNat
 refine ⟨r,h,?_,?_⟩
 ·have:((r*r:Nat):Int)<=Ja3 a*65536:=by omega
  rwa [Int.natCast_mul] at this
 have:Ja3 a*65536<(((r+1)*(r+1):Nat):Int):=by omega
 rwa [Int.natCast_mul,Int.natCast_add] at this
theorem Qe5 {x y:Nat}(h:x<=y):(x:Int)*(x:Int)<=(y:Int)*(y:Int):=by
 have:=Nat.mul_le_mul h h
 exact_mod_cast this
theorem IsRoot.lt {a:Int}{r:Nat}(h:IsRoot a r):r<16777216:=by
 rcases Nat.lt_or_ge r 16777216 with h1|h1
 ·exact h1
 have:=Qe5 h1
 have:=h.lo
 have:=Jc6 a
 omega
theorem IsRoot.iff {a:Int}{r:Nat}(h:IsRoot a r)(x:Nat):(x:Int)*(x:Int)<=Ja3 a*65536↔x<=r:=by
 constructor
 ·intro hx
  rcases Nat.lt_or_ge r x with h1|h1
  ·have h2:=Qe5 (show r+1<=x by omega)
   have:=h.hi
   rw [Int.natCast_add] at h2
   simp only [Int.natCast_one] at h2
   omega
  exact h1
 intro hx
 have:=Qe5 hx
 have:=h.lo
 omega
theorem Xx6 (k j:Nat)(hj:j<25)(hk:2 ^ (j+1)*k<2 ^ 25):bits .or .i64 ((2 ^ (j+1)*k:Nat):Int) ((2 ^ j:Nat):Int)=((2 ^ (j+1)*k+2 ^ j:Nat):Int):=by
  have hb:2 ^ j<2 ^ (j+1):=Nat.pow_lt_pow_right (by decide) (by omega)
  have hb2:2 ^ j<2 ^ 25:=Nat.pow_lt_pow_right (by decide) hj
  rw [(bits_nat .i64 25 (by decide) (fun n h0 h1=>wi (by have:(2:Int) ^ 25=33554432:=by decide
                                                         omega)) (2 ^ (j+1)*k) (2 ^ j) hk hb2).2,<-Nat.two_pow_add_eq_or_of_lt hb]
def Qv2 (j:Nat):Nat:=2 ^ j / 2
def Ju8 (r j:Nat):Nat:=2 ^ j*(r / 2 ^ j)
theorem Xb4 (j:Nat):Qv2 (j+1)=2 ^ j:=by unfold Qv2;rw [Nat.pow_succ];omega
theorem Qs8 {r j:Nat}:Ju8 r j=if Ju8 r (j+1)+2 ^ j<=r then Ju8 r (j+1)+2 ^ j else Ju8 r (j+1):=by
 unfold Ju8
 have e:r / 2 ^ (j+1)=r / 2 ^ j / 2:=by rw [Nat.pow_succ,Nat.div_div_eq_div_mul]
 have h0:0<2 ^ j:=Nat.pos_of_ne_zero (by simp)
 have h1:=Nat.div_add_mod r (2 ^ j)
 have h2:=Nat.mod_lt r h0
 have h3:2 ^ (j+1)*(r / 2 ^ (j+1))=2 ^ j*(2*(r / 2 ^ j / 2)):=by rw [e,Nat.pow_succ,Nat.mul_assoc]
 rw [h3]
 generalize r / 2 ^ j=k at *
 have h4:=Nat.div_add_mod k 2
 have h5:=Nat.mod_lt k (show 0<2 by decide)
 rcases Nat.lt_or_ge (k%2) 1 with h6|h6
 ·have:2*(k / 2)=k:=by omega
  rw [this,if_neg (by omega)]
 have e2:k=2*(k / 2)+1:=by omega
 have e3:2 ^ j*(2*(k / 2))+2 ^ j=2 ^ j*k:=by
  rw [<-Nat.mul_succ,Nat.succ_eq_add_one,<-e2]
 rw [e3,if_pos (by omega)]
theorem Qn2 (r j:Nat):Ju8 r j<=r:=by unfold Ju8;exact Nat.mul_div_le r (2 ^ j)
theorem Xn4 (r:Nat):Ju8 r 0=r:=by simp [Ju8]
theorem Vs9 {r:Nat}(h:r<16777216):Ju8 r 25=0:=by
 unfold Ju8;rw [Nat.div_eq_of_lt (Nat.lt_trans h (by decide)),Nat.mul_zero]
theorem shr1 (x:Int):x.fdiv 2=x / 2:=Int.fdiv_eq_ediv_of_nonneg _ (by decide)
theorem pow1:(2:Int) ^ min 1 IntKind.i64.bits=2:=by decide
theorem Xv6 (a:Int)(m:Ja1)(h:¬0<Ja3 a):Ctr Tryz.prog 230 [.one (.int .i64 a)] m (.one (.int .i64 (0))) m:=by
 have h1:Ja3 a<=0:=by omega
 exact Ctr.f Tryz.func230 [.tmp 2] 27 h1 Vf0
theorem Xf5 (a:Int)(m:Ja1)(h:¬0<Ja3 a):Ctr Tryz.prog 211 [.one (.int .i64 a)] m (.one (.int .i64 (0))) m:=by
 have h1:Ja3 a<=0:=by omega
 exact Ctr.f Tryz.func211 [.tmp 2] 29 h1 Ji8
theorem Xv5 (a:Int)(r:Nat)(m:Ja1)(hr:IsRoot a r):Ctr Tryz.prog 230 [.one (.int .i64 a)] m (.one (.int .i64 ((r:Int)))) m:=by
 refine Ctr.en Tryz.func230 [.tmp 2] 27 fun hwf Q hQ=>?_
 have ha:=Jc6 a
 have hp:=hr.pos
 have hrl:=hr.lt
 have h1:¬Ja3 a<=0:=by omega
 have hs:IntKind.i64.wrap (Ja3 a*65536)=Ja3 a*65536:=wi (by omega)
 have h25:=Vs9 hrl
 have hb25:Qv2 25=16777216:=by decide
 have hw0:IntKind.i64.wrap (r:Int)=(r:Int):=wi (by omega)
 have U1:=ca4 h1 @Vb8 hs hw0
 refine AW.w 12 U1 Vf0 fun K J0=>?_
 refine AW.loopK [3] (fun j=>j<=25) (fun j=>[(4,.one (.int .i64 ((Ju8 r j:Nat):Int))),(5,.one (.int .i64 ((Qv2 j:Nat):Int)))]) (fun j=>[]) (fun j=>j) 25 (by omega) ?_ ?_ fun j hi3=>?_
 · (simp only [h25,hb25,Keeps,Tm.get_cons,Nat.reduceEqDiff,↓reduceIte,and_true];exact ⟨rfl,rfl⟩)
 · first|rfl|(simp only [Ja2,push_cast,simprocAttr,U1,h25,hb25,Int.natCast_zero,Int.natCast_ofNat]<;>rfl)
 try simp only [Ja9,Ja2,push_cast,simprocAttr,U1]
 refine AW.w 2 U1 Tru fun K J1=>?_
 refine AW.cond rfl (fun h14=>?_) (fun h14=>?_)
 ·have hpos:=of_decide_eq_true h14
  obtain ⟨k,rfl⟩:∃ k,j=k+1:=by
    rcases j with _|k
    · exfalso;simp [Qv2] at hpos
    exact ⟨k,rfl⟩
  have hbit:=Xb4 k
  have hor:=Xx6 (r / 2 ^ (k+1)) k (by omega) (by have:=Qn2 r (k+1);unfold Ju8 at this;have e:2 ^ 25=33554432:=by decide
                                                 omega)
  have hst0:=@Qs8 r k
  have hiff:=hr.iff (Ju8 r (k+1)+2 ^ k)
  have hle:=Qn2 r (k+1)
  have hkb:2 ^ k<=2 ^ 24:=Nat.pow_le_pow_right (by decide) (by omega)
  have e24:2 ^ 24=16777216:=by decide
  have hor2:bits .or .i64 ((Ju8 r (k+1):Nat):Int) ((Qv2 (k+1):Nat):Int)=((Ju8 r (k+1)+2 ^ k:Nat):Int):=by rw [hbit];exact hor
  have hsh:((Qv2 (k+1):Nat):Int) / 2=((Qv2 k:Nat):Int):=by rw [hbit];unfold Qv2;omega
  generalize hx:Ju8 r (k+1)+2 ^ k=x at *
  have hxb:x<=33554432:=by omega
  have hsq:=Qs1 (x:=(x:Int)) (y:=(x:Int)) (A:=33554432) (B:=33554432) (by omega) (by omega)
  have hwx:IntKind.i64.wrap ((x:Int)*(x:Int))=(x:Int)*(x:Int):=wi (by omega)
  have hwb:IntKind.i64.wrap ((Qv2 k:Nat):Int)=((Qv2 k:Nat):Int):=wi (by unfold Qv2;omega)
  refine AW.w 4 Tru Tru fun K J1=>?_
  have U2:=ca4 U1 hor2 hwx (ca4 @pow1 @shr1 hsh hwb)
  refine AW.c 2 U2 Tru ?_
  refine AW.cond rfl (fun h24=>?_) (fun h24=>?_)
  ·have hst:((Ju8 r k:Nat):Int)=(x:Int):=by
     have:=hiff.1 (of_decide_eq_true h24)
     rw [hst0,if_pos this]
   refine AW.w 3 U2 Tru ?_
   exact Wk k U2 (ca2 hsh hst)
  have hst:Ju8 r k=Ju8 r (k+1):=by
    have h0:=of_decide_eq_false h24
    rw [hst0,if_neg (fun h=>h0 (hiff.2 h))]
  refine AW.w 3 U2 Tru ?_
  exact Wk k U2 (ca2 hsh hst)
 have hj0:j=0:=by
   have h0:=of_decide_eq_false h14
   rcases j with _|k
   · rfl
   exfalso;rw [Xb4] at h0;have:0<2 ^ k:=Nat.pos_of_ne_zero (by simp)
   omega
 subst hj0
 have hr0:=Xn4 r
 refine AW.w 2 Tru Tru ?_
 have U3:=ca2 U1 hr0
 exact AW.f U3 Tru
theorem Xf4 (a:Int)(r:Nat)(m:Ja1)(hr:IsRoot a r):Ctr Tryz.prog 211 [.one (.int .i64 a)] m (.one (.int .i64 ((r:Int)))) m:=by
 refine Ctr.en Tryz.func211 [.tmp 2] 29 fun hwf Q hQ=>?_
 have ha:=Jc6 a
 have hp:=hr.pos
 have hrl:=hr.lt
 have h1:¬Ja3 a<=0:=by omega
 have hs:IntKind.i64.wrap (Ja3 a*65536)=Ja3 a*65536:=wi (by omega)
 have U4:=ca2 h1 hs
 refine AW.w 11 U4 Ji8 fun K J0=>?_
 refine AW.loopK [3] (fun p=>p.1<=r/\r<p.2/\p.2<=16777216) (fun p=>[(4,.one (.int .i64 (p.1:Int))),(5,.one (.int .i64 (p.2:Int)))]) (fun p=>[]) (fun p=>p.2 - p.1) (0,16777216) ⟨by omega,by omega,by omega⟩ ?_ ?_ fun p hi3=>?_
 · (simp only [Keeps,Tm.get_cons,Nat.reduceEqDiff,↓reduceIte,and_true];exact ⟨rfl,rfl⟩)
 · first|rfl|(simp only [Ja2,push_cast,simprocAttr,U4]<;>rfl)
 obtain ⟨lo,hi⟩:=p
 obtain ⟨hlo,hhi,hmx⟩:=hi3
 dsimp only at hlo hhi hmx ⊢
 have w1:IntKind.i64.wrap ((hi:Int) - (lo:Int))=(hi:Int) - (lo:Int):=wi (by omega)
 try simp only [Ja9,Ja2,push_cast,simprocAttr,U4]
 refine AW.w 2 U4 Tru fun K J1=>?_
 refine AW.cond rfl (fun h16=>?_) (fun h16=>?_)
 ·rw [w1] at h16
  have hgap:1<(hi:Int) - (lo:Int):=of_decide_eq_true h16
  obtain ⟨md,hmd⟩:∃ md,md=(lo+hi) / 2:=⟨_,rfl⟩
  have w2:IntKind.i64.wrap ((lo:Int)+(hi:Int))=(lo:Int)+(hi:Int):=wi (by omega)
  have w3:((lo:Int)+(hi:Int)).tdiv 2=(md:Int):=by rw [Int.tdiv_eq_ediv_of_nonneg (by omega)];omega
  have w4:IntKind.i64.wrap (md:Int)=(md:Int):=wi (by omega)
  have hsq:=Qs1 (x:=(md:Int)) (y:=(md:Int)) (A:=33554432) (B:=33554432) (by omega) (by omega)
  have hwx:IntKind.i64.wrap ((md:Int)*(md:Int))=(md:Int)*(md:Int):=wi (by omega)
  have hiff:=hr.iff md
  refine AW.w 3 Tru Tru ?_
  have U5:=ca4 U4 w1 w2 (ca3 w3 w4 hwx)
  refine AW.c 2 U5 Tru ?_
  refine AW.cond rfl (fun h25=>?_) (fun h25=>?_)
  ·have hle:=hiff.1 (of_decide_eq_true h25)
   have hnI:(md,hi).1<=r/\r<(md,hi).2/\(md,hi).2<=16777216:=⟨hle,hhi,hmx⟩
   have hnm:(md,hi).2 - (md,hi).1<hi - lo:=by dsimp only;omega
   refine AW.w 1 U5 Tru ?_
   exact Wk (_,_) U5 Tru (hI:=hnI) (hm:=hnm)
  have hle:¬md<=r:=fun h=>(of_decide_eq_false h25) (hiff.2 h)
  have hnI:(lo,md).1<=r/\r<(lo,md).2/\(lo,md).2<=16777216:=⟨hlo,by dsimp only;omega,by dsimp only;omega⟩
  have hnm:(lo,md).2 - (lo,md).1<hi - lo:=by dsimp only;omega
  refine AW.w 1 U5 Tru ?_
  exact Wk (_,_) U5 Tru (hI:=hnI) (hm:=hnm)
 rw [w1] at h16
 have he:lo=r:=by have:=of_decide_eq_false h16;omega
 subst he
 exact AW.f U4 Tru
def Jy2 (y:Int):Int:=Je4 (16*(y*(65536 - y) / 65536)) (327680 - 4*(y*(65536 - y) / 65536))
def Kb4 (a:Int):Int:=if Ja3 a%65536<32768 then Jy2 (2*(Ja3 a%65536)) else -Jy2 (2*(Ja3 a%65536) - 65536)
def Qg9 (a:Int):Int:=Kb4 (Ja3 a%65536+16384)
theorem Jo6 (a b:Int):-2147483648<=Je4 a b/\Je4 a b<=2147483648:=by
 unfold Je4
 split
 ·split<;>(try split)<;>omega
 exact Jc6 _
theorem Xa4 {y:Int}(h:0<=y/\y<=65536):0<=y*(65536 - y)/\y*(65536 - y)<=4294967296/\0<=y*(65536 - y) / 65536/\y*(65536 - y) / 65536<=65536:=by
 have h1:=Qs1 (x:=y) (y:=65536 - y) (A:=65536) (B:=65536) (by omega) (by omega)
 have h2:=Int.mul_nonneg h.1 (show 0<=65536 - y by omega)
 omega
theorem Qy2 (a:Int):-2147483648<=Kb4 a/\Kb4 a<=2147483648:=by
 unfold Kb4 Jy2
 split
 ·exact Jo6 _ _
 have:=Jo6 (16*((2*(Ja3 a%65536) - 65536)*(65536 - (2*(Ja3 a%65536) - 65536)) / 65536)) (327680 - 4*((2*(Ja3 a%65536) - 65536)*(65536 - (2*(Ja3 a%65536) - 65536)) / 65536))
 omega
theorem Xu5 {a b:Int}(h:Ja3 a%65536=Ja3 b%65536):Kb4 a=Kb4 b:=by unfold Kb4;rw [h]
theorem Qw0 (y:Int)(hy:0<=y/\y<=65536)(m:Ja1):Ctr Tryz.prog 263 [.one (.int .i64 y)] m (.one (.int .i64 (Jy2 y))) m:=by
 refine Ctr.en Tryz.func263 [.tmp 2] 14 fun hwf Q hQ=>?_
 obtain ⟨q0,q1,q2,q3⟩:=Xa4 hy
 obtain ⟨p,hp⟩:∃ p,p=y*(65536 - y) / 65536:=⟨_,rfl⟩
 obtain ⟨z,hz⟩:∃ z,z=y*(65536 - y):=⟨_,rfl⟩
 have hr:Je4 (16*p) (327680 - 4*p)=Jy2 y:=by unfold Jy2;rw [<-hp]
 have hh:=Jb4 (n:=y) (by omega)
 have hs:Je1 65536 y=65536 - y:=by unfold Je1;rw [hh,Jb4 (n:=65536) (by decide),Jb4 (by omega)]
 have hm:Jd3 y (65536 - y)=p:=by unfold Jd3;rw [hh,Jb4 (n:=65536 - y) (by omega),<-hp,Jb4 (by omega)]
 rw [<-hz] at q0 q1
 rw [<-hp] at q2 q3
 rw [<-hz] at hp
 have hz2:=hz.symm
 have hw0:IntKind.i64.wrap (65536 - y)=65536 - y:=wi (by omega)
 have hw1:IntKind.i64.wrap z=z:=wi (by omega)
 have hw2:IntKind.i64.wrap (16*p)=16*p:=wi (by omega)
 have hw3:IntKind.i64.wrap (4*p)=4*p:=wi (by omega)
 have hw4:IntKind.i64.wrap (327680 - 4*p)=327680 - 4*p:=wi (by omega)
 have U1:=ca4 hs hm hw0 (ca3 hw2 hw3 hw4)
 exact AW.f U1 (ca3 Jx0 Jk7 Jr3) hr
theorem Qj4 (y:Int)(hy:0<=y/\y<=65536)(m:Ja1):Ctr Tryz.prog 266 [.one (.int .i64 y)] m (.one (.int .i64 (Jy2 y))) m:=by
 refine Ctr.en Tryz.func266 [.tmp 2] 15 fun hwf Q hQ=>?_
 obtain ⟨q0,q1,q2,q3⟩:=Xa4 hy
 obtain ⟨p,hp⟩:∃ p,p=y*(65536 - y) / 65536:=⟨_,rfl⟩
 obtain ⟨z,hz⟩:∃ z,z=y*(65536 - y):=⟨_,rfl⟩
 have hr:Je4 (16*p) (327680 - 4*p)=Jy2 y:=by unfold Jy2;rw [<-hp]
 have hh:=Jb4 (n:=y) (by omega)
 have hs:Je1 65536 y=65536 - y:=by unfold Je1;rw [hh,Jb4 (n:=65536) (by decide),Jb4 (by omega)]
 have hm:Jd3 y (65536 - y)=p:=by unfold Jd3;rw [hh,Jb4 (n:=65536 - y) (by omega),<-hp,Jb4 (by omega)]
 rw [<-hz] at q0 q1
 rw [<-hp] at q2 q3
 rw [<-hz] at hp
 have hz2:=hz.symm
 have hw0:IntKind.i64.wrap (65536 - y)=65536 - y:=wi (by omega)
 have hw1:IntKind.i64.wrap z=z:=wi (by omega)
 have hw2:IntKind.i64.wrap (16*p)=16*p:=wi (by omega)
 have hw3:IntKind.i64.wrap (4*p)=4*p:=wi (by omega)
 have hw4:IntKind.i64.wrap (327680 - 4*p)=327680 - 4*p:=wi (by omega)
 have hp2:=hp.symm
 refine AW.sr 3 fun K J0=>?_
 have U2:=ca4 hw0 hz2 hw1 (ca4 hp2 hw2 hw3 hw4)
 simp only [push_cast,simprocAttr,U2]
 refine CThen.by (Jp5 _ _ _ (by decide) (by omega) (by decide)) ?_
 simp only [push_cast,simprocAttr,U2]
 refine CThen.by (Jj8 _ _ _) ?_
 simp only [push_cast,simprocAttr,U2]
 exact AW.f U2 Tru hr
theorem Ky1 (a:Int)(m:Ja1):Ctr Tryz.prog 238 [.one (.int .i64 a)] m (.one (.int .i64 (Kb4 a))) m:=by
 refine Ctr.en Tryz.func238 [.tmp 2] 16 fun hwf Q hQ=>?_
 have ha:=Jc6 a
 obtain ⟨t,ht⟩:∃ t,t=Ja3 a%65536:=⟨_,rfl⟩
 have ht2:=ht.symm
 have b1:0<=t/\t<65536:=by omega
 have b2:=Qy2 a
 refine AW.w 4 ht2 Vz0 fun K J0=>?_
 refine AW.cond rfl (fun h7=>?_) (fun h7=>?_)
 ·have hc:=of_decide_eq_true h7
  have hy:0<=2*t/\2*t<=65536:=by omega
  have hr:Jy2 (2*t)=Kb4 a:=by unfold Kb4;rw [<-ht,if_pos hc]
  have hw1:IntKind.i64.wrap (2*t)=2*t:=wi (by omega)
  have U3:=ca2 ht2 hw1
  exact AW.f U3 (Qw0 _ hy) hr
 have hc:=of_decide_eq_false h7
 have hy:0<=2*t - 65536/\2*t - 65536<=65536:=by omega
 have hr:-Jy2 (2*t - 65536)=Kb4 a:=by unfold Kb4;rw [<-ht,if_neg hc]
 have hw1:IntKind.i64.wrap (2*t)=2*t:=wi (by omega)
 have hw2:IntKind.i64.wrap (2*t - 65536)=2*t - 65536:=wi (by omega)
 have hw3:IntKind.i64.wrap (-Jy2 (2*t - 65536))=-Jy2 (2*t - 65536):=by rw [hr];exact wi (by omega)
 refine AW.w 2 Tru Tru ?_
 have U4:=ca4 ht2 hw1 hw2 (ca2 hw3 @Int.zero_sub)
 exact AW.f U4 (Qw0 _ hy) hr
theorem Kk0 (a:Int)(m:Ja1):Ctr Tryz.prog 244 [.one (.int .i64 a)] m (.one (.int .i64 (Kb4 a))) m:=by
 refine Ctr.en Tryz.func244 [.tmp 2] 21 fun hwf Q hQ=>?_
 have ha:=Jc6 a
 obtain ⟨t,ht⟩:∃ t,t=Ja3 a%65536:=⟨_,rfl⟩
 have ht2:=ht.symm
 have b1:0<=t/\t<65536:=by omega
 have b2:=Qy2 a
 have hw6:IntKind.i64.wrap (Ja3 a / 65536*65536)=Ja3 a / 65536*65536:=wi (by omega)
 have hw7:IntKind.i64.wrap (Ja3 a - Ja3 a / 65536*65536)=t:=by rw [wi (by omega)];omega
 refine AW.sr 2 fun K J0=>?_
 iterate 2
  simp only [push_cast,simprocAttr,ht2,hw6,hw7]
  refine CThen.by (Ji8 _ _) ?_
 simp only [push_cast,simprocAttr,ht2,hw6,hw7]
 refine CThen.by (Jp5 _ _ _ (by decide) (by omega) (by decide)) ?_
 simp only [push_cast,simprocAttr,ht2,hw6,hw7]
 apply J0
 refine AW.q fun K J0=>?_
 have U5:=ca3 ht2 hw6 hw7
 refine AW.c 1 U5 Tru ?_
 refine AW.cond rfl (fun h12=>?_) (fun h12=>?_)
 ·have hc:=of_decide_eq_true h12
  have hy:0<=2*t/\2*t<=65536:=by omega
  have hr:Jy2 (2*t)=Kb4 a:=by unfold Kb4;rw [<-ht,if_pos hc]
  have hw1:IntKind.i64.wrap (2*t)=2*t:=wi (by omega)
  have U6:=ca2 U5 hw1
  exact AW.f U6 (Qj4 _ hy) hr
 have hc:=of_decide_eq_false h12
 have hy:0<=2*t - 65536/\2*t - 65536<=65536:=by omega
 have hr:-Jy2 (2*t - 65536)=Kb4 a:=by unfold Kb4;rw [<-ht,if_neg hc]
 have hw1:IntKind.i64.wrap (2*t)=2*t:=wi (by omega)
 have hw2:IntKind.i64.wrap (2*t - 65536)=2*t - 65536:=wi (by omega)
 have hw3:IntKind.i64.wrap (-Jy2 (2*t - 65536))=-Jy2 (2*t - 65536):=by rw [hr];exact wi (by omega)
 refine AW.w 2 Tru Tru ?_
 have U7:=ca4 U5 hw1 hw2 (ca2 hw3 @Int.zero_sub)
 exact AW.f U7 (Qj4 _ hy) hr
theorem Qi1 (a:Int)(m:Ja1):Ctr Tryz.prog 237 [.one (.int .i64 a)] m (.one (.int .i64 (Qg9 a))) m:=by
 have ha:=Jc6 a
 obtain ⟨t,ht⟩:∃ t,t=Ja3 a%65536:=⟨_,rfl⟩
 have ht2:=ht.symm
 have b1:0<=t/\t<65536:=by omega
 have b2:=Qy2 a
 have hr:Kb4 (t+16384)=Qg9 a:=by unfold Qg9;rw [ht]
 have hw1:IntKind.i64.wrap (t+16384)=t+16384:=wi (by omega)
 have U8:=ca2 ht2 hw1
 exact Ctr.f Tryz.func237 [.tmp 2] 7 U8 (ca2 Vz0 Ky1) hr
theorem Ku0 (a:Int)(m:Ja1):Ctr Tryz.prog 243 [.one (.int .i64 a)] m (.one (.int .i64 (Qg9 a))) m:=by
 refine Ctr.en Tryz.func243 [.tmp 2] 8 fun hwf Q hQ=>?_
 have ha:=Jc6 a
 obtain ⟨t,ht⟩:∃ t,t=Ja3 a%65536:=⟨_,rfl⟩
 have ht2:=ht.symm
 have b1:0<=t/\t<65536:=by omega
 have b2:=Qy2 a
 have hm:=Kt5 (n:=Ja3 a) (d:=65536) (by decide)
 obtain ⟨q,hq⟩:∃ q,q=(Ja3 a).tmod 65536:=⟨_,rfl⟩
 have hq2:=hq.symm
 rw [<-hq] at hm
 have hr:Kb4 (q+16384)=Qg9 a:=by
   unfold Qg9
   refine Xu5 ?_
   rw [Jb4 (by omega),Jb4 (by omega)]
   omega
 have hw0:IntKind.i64.wrap q=q:=wi (by omega)
 have hw1:IntKind.i64.wrap (q+16384)=q+16384:=wi (by omega)
 have U9:=ca3 hq2 hw0 hw1
 exact AW.f U9 (ca2 Ji8 Kk0) hr
structure SC where
 (w h sm dp fr sh sd:Int) (sk:Nat->Int) (ey lk wd:Int) (np nt nj nx:Nat) (pk:Nat->Int) (pc:Nat->Nat->Int) (pr:Nat->Int) (tw:Nat->Int) (kn:Nat->Nat) (kt:Nat->Nat->Int) (kv:Nat->Nat->Nat->Int)
 (jp jm jt js:Nat->Int) (xj xp xk:Nat->Int) (xv:Nat->Nat->Nat->Int) (xr:Nat->Int)
def c3C (f:Nat->Int):List CV:=[.int .i64 (f 0),.int .i64 (f 1),.int .i64 (f 2)]
theorem Xb2 (f:Nat->Int):c3C f=[.int .i64 (f 0),.int .i64 (f 1),.int .i64 (f 2)]:=rfl
def hdC (s:SC):List CV:=.int .i64 s.w::.int .i64 s.h::.int .i64 s.sm::.int .i64 s.dp::.int .i64 s.fr::.int .i64 s.sh::.int .u64 s.sd::c3C s.sk
structure RWs where
 (p vp t vt j vj x vx:Nat) (k vk:Nat->Nat)
def tlC (s:SC)(R:RWs):List CV:=[.int .i64 s.ey,.int .i64 s.lk,.int .i64 s.wd,.sl R.p R.vp 0 s.np,.sl R.t R.vt 0 s.nt,.sl R.j R.vj 0 s.nj,.sl R.x R.vx 0 s.nx]
def scC (s:SC)(R:RWs):List CV:=hdC s++tlC s R
def pC (s:SC)(i:Nat):List CV:=[.int .i64 (s.pk i),.int .i64 (s.pc i 0),.int .i64 (s.pc i 1),.int .i64 (s.pc i 2),.int .i64 (s.pr i)]
theorem Kd0 (s:SC)(i:Nat):pC s i=[.int .i64 (s.pk i),.int .i64 (s.pc i 0),.int .i64 (s.pc i 1),.int .i64 (s.pc i 2),.int .i64 (s.pr i)]:=rfl
def tC (s:SC)(R:RWs)(i:Nat):List CV:=[.int .i64 (s.tw i),.sl (R.k i) (R.vk i) 0 (s.kn i)]
theorem Vm0 (s:SC)(R:RWs)(i:Nat):tC s R i=[.int .i64 (s.tw i),.sl (R.k i) (R.vk i) 0 (s.kn i)]:=rfl
def kC (s:SC)(i j:Nat):List CV:=[.int .i64 (s.kt i j),.int .i64 (s.kv i j 0),.int .i64 (s.kv i j 1),.int .i64 (s.kv i j 2)]
def jC (s:SC)(i:Nat):List CV:=[.int .i64 (s.jp i),.int .i64 (s.jm i),.int .i64 (s.jt i),.int .i64 (s.js i)]
theorem Ve9 (s:SC)(i:Nat):jC s i=[.int .i64 (s.jp i),.int .i64 (s.jm i),.int .i64 (s.jt i),.int .i64 (s.js i)]:=rfl
def xC (s:SC)(i:Nat):List CV:=.int .i64 (s.xj i)::.int .i64 (s.xp i)::.int .i64 (s.xk i)::(c3C (s.xv i 0)++(c3C (s.xv i 1)++(c3C (s.xv i 2)++[.int .i64 (s.xr i)])))
theorem Ke2 (s:SC)(i:Nat):xC s i=[.int .i64 (s.xj i),.int .i64 (s.xp i),.int .i64 (s.xk i),.int .i64 (s.xv i 0 0),.int .i64 (s.xv i 0 1),.int .i64 (s.xv i 0 2),.int .i64 (s.xv i 1 0),.int .i64 (s.xv i 1 1),.int .i64 (s.xv i 1 2),.int .i64 (s.xv i 2 0),.int .i64 (s.xv i 2 1),.int .i64 (s.xv i 2 2),.int .i64 (s.xr i)]:=rfl
def inB (x lo hi:Int):Bool:=decide (lo<=x)&&decide (x<=hi)
def Ji1 (f:Nat->Int)(lo hi:Int):Bool:=decide (lo<=f 0/\f 0<=hi/\lo<=f 1/\f 1<=hi/\lo<=f 2/\f 2<=hi)
theorem inB_iff {x lo hi:Int}:inB x lo hi=true↔lo<=x/\x<=hi:=by simp [inB]
theorem Vs8 (x lo hi:Int):inB x lo hi=(decide (lo<=x)&&decide (x<=hi)):=rfl
theorem rin_t (x lo hi:Int)(m:Ja1)(g:lo<=x):Ctr Tryz.prog 156 [.one (.int .i64 x),.one (.int .i64 lo),.one (.int .i64 hi)] m (.one (.bool (inB x lo hi))) m:=by
 have U1:=ca4 @Vs8 g @decide_true (ca3 @decide_false @Bool.true_and @Bool.false_and)
 exact Ctr.f Tryz.func156 [.tmp 6] 15 U1 Tru
theorem rin_f (x lo hi:Int)(m:Ja1)(g:¬lo<=x):Ctr Tryz.prog 156 [.one (.int .i64 x),.one (.int .i64 lo),.one (.int .i64 hi)] m (.one (.bool (inB x lo hi))) m:=by
 have U2:=ca4 @Vs8 g @decide_true (ca3 @decide_false @Bool.true_and @Bool.false_and)
 exact Ctr.f Tryz.func156 [.tmp 6] 15 U2 Tru
theorem Kf1 (x lo hi:Int)(m:Ja1):Ctr Tryz.prog 156 [.one (.int .i64 x),.one (.int .i64 lo),.one (.int .i64 hi)] m (.one (.bool (inB x lo hi))) m:=by
 by_cases g:lo<=x
 ·exact rin_t x lo hi m g
 exact rin_f x lo hi m g
theorem Ja5 (f:Nat->Int):c3C f=([.int .i64 (f 0),.int .i64 (f 1),.int .i64 (f 2)]):=rfl
theorem Ve5 (f:Nat->Int)(m:Ja1):Ctr Tryz.prog 157 [.agg (c3C f)] m (.one (.bool (Ji1 f (0) (1048576)))) m:=by
 refine Ctr.en Tryz.func157 [.tmp 2] 18 fun hwf Q hQ=>?_
 refine AW.w 4 @Ja5 Tru fun K J0=>?_
 refine AW.r 4 ?_
 refine AW.w 8 @Ja5 Tru fun K J1 K J2=>?_
 refine AW.q fun K J3=>?_
 have hk0:f 0<0\/(¬f 0<0/\1048576<f 0)\/(¬f 0<0/\¬1048576<f 0):=by omega
 rcases hk0 with g0|⟨g0,f0⟩|⟨g0,f0⟩
 ·rw [show Ji1 f (0) (1048576)=false from decide_eq_false (by omega)] at hQ
  have U3:=ca2 @Ja5 g0
  refine AW.w 5 U3 Tru ?_
  refine hQ _ _ _ ?_
  first
  | (refine RetP.drop0 (Or.inr rfl) ?_ ?_ hwf
     · simp only [Je0,Jb1,Jb9,AV.tv,push_cast,simprocAttr]
     rfl)
  | (refine RetP.drop (Or.inr rfl) ?_ ?_ hwf
     · simp only [Je0,Jb1,Jb9,AV.tv,push_cast,simprocAttr]
     rfl)
  | (rw [show Ji1 f (0) (1048576)=true from decide_eq_true (by omega)] at * ;refine RetP.drop (Or.inr rfl) ?_ ?_ hwf
     · simp only [Je0,Jb1,Jb9,AV.tv,push_cast,simprocAttr]
     rfl)
 ·rw [show Ji1 f (0) (1048576)=false from decide_eq_false (by omega)] at hQ
  have U4:=ca3 @Ja5 g0 f0
  refine AW.w 5 U4 Tru ?_
  refine hQ _ _ _ ?_
  first
  | (refine RetP.drop0 (Or.inr rfl) ?_ ?_ hwf
     · simp only [Je0,Jb1,Jb9,AV.tv,push_cast,simprocAttr]
     rfl)
  | (refine RetP.drop (Or.inr rfl) ?_ ?_ hwf
     · simp only [Je0,Jb1,Jb9,AV.tv,push_cast,simprocAttr]
     rfl)
  | (rw [show Ji1 f (0) (1048576)=true from decide_eq_true (by omega)] at * ;refine RetP.drop (Or.inr rfl) ?_ ?_ hwf
     · simp only [Je0,Jb1,Jb9,AV.tv,push_cast,simprocAttr]
     rfl)
 have ok0:=True.intro
 have U5:=ca3 @Ja5 g0 f0
 refine AW.w 9 U5 Tru fun K J1 K J2=>?_
 refine AW.w 6 @Ja5 Tru fun K J2=>?_
 refine AW.q fun K J3=>?_
 have hk1:f 1<0\/(¬f 1<0/\1048576<f 1)\/(¬f 1<0/\¬1048576<f 1):=by omega
 rcases hk1 with g1|⟨g1,f1⟩|⟨g1,f1⟩
 ·rw [show Ji1 f (0) (1048576)=false from decide_eq_false (by omega)] at hQ
  have U6:=ca2 @Ja5 g1
  refine AW.w 5 U6 Tru ?_
  refine hQ _ _ _ ?_
  first
  | (refine RetP.drop0 (Or.inr rfl) ?_ ?_ hwf
     · simp only [Je0,Jb1,Jb9,AV.tv,push_cast,simprocAttr]
     rfl)
  | (refine RetP.drop (Or.inr rfl) ?_ ?_ hwf
     · simp only [Je0,Jb1,Jb9,AV.tv,push_cast,simprocAttr]
     rfl)
  | (rw [show Ji1 f (0) (1048576)=true from decide_eq_true (by omega)] at * ;refine RetP.drop (Or.inr rfl) ?_ ?_ hwf
     · simp only [Je0,Jb1,Jb9,AV.tv,push_cast,simprocAttr]
     rfl)
 ·rw [show Ji1 f (0) (1048576)=false from decide_eq_false (by omega)] at hQ
  have U7:=ca3 @Ja5 g1 f1
  refine AW.w 5 U7 Tru ?_
  refine hQ _ _ _ ?_
  first
  | (refine RetP.drop0 (Or.inr rfl) ?_ ?_ hwf
     · simp only [Je0,Jb1,Jb9,AV.tv,push_cast,simprocAttr]
     rfl)
  | (refine RetP.drop (Or.inr rfl) ?_ ?_ hwf
     · simp only [Je0,Jb1,Jb9,AV.tv,push_cast,simprocAttr]
     rfl)
  | (rw [show Ji1 f (0) (1048576)=true from decide_eq_true (by omega)] at * ;refine RetP.drop (Or.inr rfl) ?_ ?_ hwf
     · simp only [Je0,Jb1,Jb9,AV.tv,push_cast,simprocAttr]
     rfl)
 have ok1:=True.intro
 have U8:=ca3 @Ja5 g1 f1
 refine AW.w 9 U8 Tru fun K J1 K J2=>?_
 refine AW.w 6 @Ja5 Tru fun K J2=>?_
 refine AW.q fun K J3=>?_
 have hk2:f 2<0\/(¬f 2<0/\1048576<f 2)\/(¬f 2<0/\¬1048576<f 2):=by omega
 rcases hk2 with g2|⟨g2,f2⟩|⟨g2,f2⟩
 ·rw [show Ji1 f (0) (1048576)=false from decide_eq_false (by omega)] at hQ
  have U9:=ca2 @Ja5 g2
  refine AW.w 5 U9 Tru ?_
  refine hQ _ _ _ ?_
  first
  | (refine RetP.drop0 (Or.inr rfl) ?_ ?_ hwf
     · simp only [Je0,Jb1,Jb9,AV.tv,push_cast,simprocAttr]
     rfl)
  | (refine RetP.drop (Or.inr rfl) ?_ ?_ hwf
     · simp only [Je0,Jb1,Jb9,AV.tv,push_cast,simprocAttr]
     rfl)
  | (rw [show Ji1 f (0) (1048576)=true from decide_eq_true (by omega)] at * ;refine RetP.drop (Or.inr rfl) ?_ ?_ hwf
     · simp only [Je0,Jb1,Jb9,AV.tv,push_cast,simprocAttr]
     rfl)
 ·rw [show Ji1 f (0) (1048576)=false from decide_eq_false (by omega)] at hQ
  have U10:=ca3 @Ja5 g2 f2
  refine AW.w 5 U10 Tru ?_
  refine hQ _ _ _ ?_
  first
  | (refine RetP.drop0 (Or.inr rfl) ?_ ?_ hwf
     · simp only [Je0,Jb1,Jb9,AV.tv,push_cast,simprocAttr]
     rfl)
  | (refine RetP.drop (Or.inr rfl) ?_ ?_ hwf
     · simp only [Je0,Jb1,Jb9,AV.tv,push_cast,simprocAttr]
     rfl)
  | (rw [show Ji1 f (0) (1048576)=true from decide_eq_true (by omega)] at * ;refine RetP.drop (Or.inr rfl) ?_ ?_ hwf
     · simp only [Je0,Jb1,Jb9,AV.tv,push_cast,simprocAttr]
     rfl)
 have ok2:=True.intro
 have U11:=ca3 @Ja5 g2 f2
 refine AW.w 9 U11 Tru fun K J1 K J2=>?_
 refine AW.w 6 @Ja5 Tru ?_
 refine hQ _ _ _ ?_
 first
 | (refine RetP.drop0 (Or.inr rfl) ?_ ?_ hwf
    · simp only [Je0,Jb1,Jb9,AV.tv,push_cast,simprocAttr]
    rfl)
 | (refine RetP.drop (Or.inr rfl) ?_ ?_ hwf
    · simp only [Je0,Jb1,Jb9,AV.tv,push_cast,simprocAttr]
    rfl)
 | (rw [show Ji1 f (0) (1048576)=true from decide_eq_true (by omega)] at * ;refine RetP.drop (Or.inr rfl) ?_ ?_ hwf
    · simp only [Je0,Jb1,Jb9,AV.tv,push_cast,simprocAttr]
    rfl)
theorem Km5 (f:Nat->Int)(m:Ja1):Ctr Tryz.prog 159 [.agg (c3C f)] m (.one (.bool (Ji1 f (-16777216) (16777216)))) m:=by
 refine Ctr.en Tryz.func159 [.tmp 2] 18 fun hwf Q hQ=>?_
 refine AW.w 4 @Ja5 Tru fun K J0=>?_
 refine AW.r 4 ?_
 refine AW.w 8 @Ja5 Tru fun K J1 K J2=>?_
 refine AW.q fun K J3=>?_
 have hk0:f 0 < -16777216\/(¬f 0 < -16777216/\16777216<f 0)\/(¬f 0 < -16777216/\¬16777216<f 0):=by omega
 rcases hk0 with g0|⟨g0,f0⟩|⟨g0,f0⟩
 ·rw [show Ji1 f (-16777216) (16777216)=false from decide_eq_false (by omega)] at hQ
  have U12:=ca2 @Ja5 g0
  refine AW.w 5 U12 Tru ?_
  refine hQ _ _ _ ?_
  first
  | (refine RetP.drop0 (Or.inr rfl) ?_ ?_ hwf
     · simp only [Je0,Jb1,Jb9,AV.tv,push_cast,simprocAttr]
     rfl)
  | (refine RetP.drop (Or.inr rfl) ?_ ?_ hwf
     · simp only [Je0,Jb1,Jb9,AV.tv,push_cast,simprocAttr]
     rfl)
  | (rw [show Ji1 f (-16777216) (16777216)=true from decide_eq_true (by omega)] at * ;refine RetP.drop (Or.inr rfl) ?_ ?_ hwf
     · simp only [Je0,Jb1,Jb9,AV.tv,push_cast,simprocAttr]
     rfl)
 ·rw [show Ji1 f (-16777216) (16777216)=false from decide_eq_false (by omega)] at hQ
  have U13:=ca3 @Ja5 g0 f0
  refine AW.w 5 U13 Tru ?_
  refine hQ _ _ _ ?_
  first
  | (refine RetP.drop0 (Or.inr rfl) ?_ ?_ hwf
     · simp only [Je0,Jb1,Jb9,AV.tv,push_cast,simprocAttr]
     rfl)
  | (refine RetP.drop (Or.inr rfl) ?_ ?_ hwf
     · simp only [Je0,Jb1,Jb9,AV.tv,push_cast,simprocAttr]
     rfl)
  | (rw [show Ji1 f (-16777216) (16777216)=true from decide_eq_true (by omega)] at * ;refine RetP.drop (Or.inr rfl) ?_ ?_ hwf
     · simp only [Je0,Jb1,Jb9,AV.tv,push_cast,simprocAttr]
     rfl)
 have ok0:=True.intro
 have U14:=ca3 @Ja5 g0 f0
 refine AW.w 9 U14 Tru fun K J1 K J2=>?_
 refine AW.w 6 @Ja5 Tru fun K J2=>?_
 refine AW.q fun K J3=>?_
 have hk1:f 1 < -16777216\/(¬f 1 < -16777216/\16777216<f 1)\/(¬f 1 < -16777216/\¬16777216<f 1):=by omega
 rcases hk1 with g1|⟨g1,f1⟩|⟨g1,f1⟩
 ·rw [show Ji1 f (-16777216) (16777216)=false from decide_eq_false (by omega)] at hQ
  have U15:=ca2 @Ja5 g1
  refine AW.w 5 U15 Tru ?_
  refine hQ _ _ _ ?_
  first
  | (refine RetP.drop0 (Or.inr rfl) ?_ ?_ hwf
     · simp only [Je0,Jb1,Jb9,AV.tv,push_cast,simprocAttr]
     rfl)
  | (refine RetP.drop (Or.inr rfl) ?_ ?_ hwf
     · simp only [Je0,Jb1,Jb9,AV.tv,push_cast,simprocAttr]
     rfl)
  | (rw [show Ji1 f (-16777216) (16777216)=true from decide_eq_true (by omega)] at * ;refine RetP.drop (Or.inr rfl) ?_ ?_ hwf
     · simp only [Je0,Jb1,Jb9,AV.tv,push_cast,simprocAttr]
     rfl)
 ·rw [show Ji1 f (-16777216) (16777216)=false from decide_eq_false (by omega)] at hQ
  have U16:=ca3 @Ja5 g1 f1
  refine AW.w 5 U16 Tru ?_
  refine hQ _ _ _ ?_
  first
  | (refine RetP.drop0 (Or.inr rfl) ?_ ?_ hwf
     · simp only [Je0,Jb1,Jb9,AV.tv,push_cast,simprocAttr]
     rfl)
  | (refine RetP.drop (Or.inr rfl) ?_ ?_ hwf
     · simp only [Je0,Jb1,Jb9,AV.tv,push_cast,simprocAttr]
     rfl)
  | (rw [show Ji1 f (-16777216) (16777216)=true from decide_eq_true (by omega)] at * ;refine RetP.drop (Or.inr rfl) ?_ ?_ hwf
     · simp only [Je0,Jb1,Jb9,AV.tv,push_cast,simprocAttr]
     rfl)
 have ok1:=True.intro
 have U17:=ca3 @Ja5 g1 f1
 refine AW.w 9 U17 Tru fun K J1 K J2=>?_
 refine AW.w 6 @Ja5 Tru fun K J2=>?_
 refine AW.q fun K J3=>?_
 have hk2:f 2 < -16777216\/(¬f 2 < -16777216/\16777216<f 2)\/(¬f 2 < -16777216/\¬16777216<f 2):=by omega
 rcases hk2 with g2|⟨g2,f2⟩|⟨g2,f2⟩
 ·rw [show Ji1 f (-16777216) (16777216)=false from decide_eq_false (by omega)] at hQ
  have U18:=ca2 @Ja5 g2
  refine AW.w 5 U18 Tru ?_
  refine hQ _ _ _ ?_
  first
  | (refine RetP.drop0 (Or.inr rfl) ?_ ?_ hwf
     · simp only [Je0,Jb1,Jb9,AV.tv,push_cast,simprocAttr]
     rfl)
  | (refine RetP.drop (Or.inr rfl) ?_ ?_ hwf
     · simp only [Je0,Jb1,Jb9,AV.tv,push_cast,simprocAttr]
     rfl)
  | (rw [show Ji1 f (-16777216) (16777216)=true from decide_eq_true (by omega)] at * ;refine RetP.drop (Or.inr rfl) ?_ ?_ hwf
     · simp only [Je0,Jb1,Jb9,AV.tv,push_cast,simprocAttr]
     rfl)
 ·rw [show Ji1 f (-16777216) (16777216)=false from decide_eq_false (by omega)] at hQ
  have U19:=ca3 @Ja5 g2 f2
  refine AW.w 5 U19 Tru ?_
  refine hQ _ _ _ ?_
  first
  | (refine RetP.drop0 (Or.inr rfl) ?_ ?_ hwf
     · simp only [Je0,Jb1,Jb9,AV.tv,push_cast,simprocAttr]
     rfl)
  | (refine RetP.drop (Or.inr rfl) ?_ ?_ hwf
     · simp only [Je0,Jb1,Jb9,AV.tv,push_cast,simprocAttr]
     rfl)
  | (rw [show Ji1 f (-16777216) (16777216)=true from decide_eq_true (by omega)] at * ;refine RetP.drop (Or.inr rfl) ?_ ?_ hwf
     · simp only [Je0,Jb1,Jb9,AV.tv,push_cast,simprocAttr]
     rfl)
 have ok2:=True.intro
 have U20:=ca3 @Ja5 g2 f2
 refine AW.w 9 U20 Tru fun K J1 K J2=>?_
 refine AW.w 6 @Ja5 Tru ?_
 refine hQ _ _ _ ?_
 first
 | (refine RetP.drop0 (Or.inr rfl) ?_ ?_ hwf
    · simp only [Je0,Jb1,Jb9,AV.tv,push_cast,simprocAttr]
    rfl)
 | (refine RetP.drop (Or.inr rfl) ?_ ?_ hwf
    · simp only [Je0,Jb1,Jb9,AV.tv,push_cast,simprocAttr]
    rfl)
 | (rw [show Ji1 f (-16777216) (16777216)=true from decide_eq_true (by omega)] at * ;refine RetP.drop (Or.inr rfl) ?_ ?_ hwf
    · simp only [Je0,Jb1,Jb9,AV.tv,push_cast,simprocAttr]
    rfl)
def HdR (s:SC):Prop:=inB s.w 1 64=true/\inB s.h 1 64=true/\inB s.sm 1 16=true/\inB s.dp 1 6=true/\inB s.fr 1 32=true/\0<=s.sh/\s.sh<=65536/\Ji1 s.sk 0 1048576=true
instance (s:SC):Decidable (HdR s):=by unfold HdR;exact inferInstance
def PaR (s:SC)(i:Nat):Prop:=inB (s.pk i) 0 3=true/\Ji1 (s.pc i) 0 1048576=true/\0<=s.pr i/\s.pr i<=65536
instance (s:SC)(i:Nat):Decidable (PaR s i):=by unfold PaR;exact inferInstance
def JoR (s:SC)(i:Nat):Prop:=inB (s.jp i) (-1) ((i:Int) - 1)=true/\inB (s.jm i) (-1) ((s.nt:Int) - 1)=true/\inB (s.jt i) (-1) ((s.nt:Int) - 1)=true/\1<=s.js i/\s.js i<=4194304
instance (s:SC)(i:Nat):Decidable (JoR s i):=by unfold JoR;exact inferInstance
def LeR (s:SC):Prop:=inB s.ey 0 ((s.nt:Int) - 1)=true/\inB s.lk 0 ((s.nt:Int) - 1)=true/\1<=s.wd/\s.wd<=524288
instance (s:SC):Decidable (LeR s):=by unfold LeR;exact inferInstance
theorem Jf6 (s:SC):hdC s=(.int .i64 s.w::.int .i64 s.h::.int .i64 s.sm::.int .i64 s.dp::.int .i64 s.fr::.int .i64 s.sh::.int .u64 s.sd::c3C s.sk):=rfl
theorem rhd_c (s:SC)(m:Ja1):Ctr Tryz.prog 68 [.agg (hdC s)] m (.one (.bool (decide (HdR s)))) m:=by
 refine Ctr.en Tryz.func68 [.tmp 2] 41 fun hwf Q hQ=>?_
 rcases Xb1 (inB s.w 1 64=true) (inB s.h 1 64=true) (inB s.sm 1 16=true) (inB s.dp 1 6=true) (inB s.fr 1 32=true) (0<=s.sh) (s.sh<=65536) (Ji1 s.sk 0 1048576=true) with ⟨g1,g2,g3,g4,g5,g6,g7,g8⟩|⟨g1,g2,g3,g4,g5,g6,g7,g8⟩|⟨g1,g2,g3,g4,g5,g6,g7,g8⟩|⟨g1,g2,g3,g4,g5,g6,g7,g8⟩|⟨g1,g2,g3,g4,g5,g6,g7,g8⟩|⟨g1,g2,g3,g4,g5,g6,g7,g8⟩|⟨g1,g2,g3,g4,g5,g6,g7,g8⟩|⟨g1,g2,g3,g4,g5,g6,g7,g8⟩|⟨g1,g2,g3,g4,g5,g6,g7,g8⟩ <;>
 (
 try simp only [Bool.not_eq_true,Bool.not_eq_false,Classical.not_not] at g1 g2 g3 g4 g5 g6 g7 g8
 first
 | (have hz:(HdR s):=⟨g1,g2,g3,g4,g5,g6,g7,g8⟩
    rw [decide_eq_true hz] at hQ)
 | (have hz:¬(HdR s):=fun ⟨q1,q2,q3,q4,q5,q6,q7,q8⟩=>by
      first|exact g1 q1|(rw [g1] at q1;exact absurd q1 (by decide))|exact g2 q2|(rw [g2] at q2;exact absurd q2 (by decide))|exact g3 q3|(rw [g3] at q3;exact absurd q3 (by decide))|exact g4 q4|(rw [g4] at q4;exact absurd q4 (by decide))|exact g5 q5|(rw [g5] at q5;exact absurd q5 (by decide))|exact g6 q6|(rw [g6] at q6;exact absurd q6 (by decide))|exact g7 q7|(rw [g7] at q7;exact absurd q7 (by decide))|exact g8 q8|(rw [g8] at q8;exact absurd q8 (by decide))
    rw [decide_eq_false hz] at hQ)
 refine AW.sr 2 fun K J0=>?_
 have U1:=ca4 g1 g2 g3 (ca4 g4 g5 g6 (ca2 g7 g8))
 simp only [push_cast,simprocAttr,hdC,c3C,U1]
 refine CThen.by (Kf1 _ _ _ _) ?_
 simp only [push_cast,simprocAttr,hdC,c3C,U1]
 iterate 2
  try (refine CThen.by (Kf1 _ _ _ _) ?_;simp only [push_cast,simprocAttr,hdC,c3C,U1])
  try (refine CThen.by (Kf1 _ _ _ _) ?_;simp only [push_cast,simprocAttr,hdC,c3C,U1])
 try (refine CThen.by (Ve5 _ _) ?_;simp only [push_cast,simprocAttr,hdC,c3C,U1])
 apply J0
 have U2:=ca3 @Jf6 @Ja5 U1
 exact AW.f U2 Tru
 )
theorem pC_e (s:SC)(i:Nat):pC s i=([.int .i64 (s.pk i),.int .i64 (s.pc i 0),.int .i64 (s.pc i 1),.int .i64 (s.pc i 2),.int .i64 (s.pr i)]):=rfl
theorem rpa_c (s:SC)(i:Nat)(m:Ja1):Ctr Tryz.prog 69 [.agg (pC s i)] m (.one (.bool (decide (PaR s i)))) m:=by
 refine Ctr.en Tryz.func69 [.tmp 2] 21 fun hwf Q hQ=>?_
 rcases Kh1 (inB (s.pk i) 0 3=true) (Ji1 (s.pc i) 0 1048576=true) (0<=s.pr i) (s.pr i<=65536) with ⟨g1,g2,g3,g4⟩|⟨g1,g2,g3,g4⟩|⟨g1,g2,g3,g4⟩|⟨g1,g2,g3,g4⟩|⟨g1,g2,g3,g4⟩ <;>
 (
 try simp only [Bool.not_eq_true,Bool.not_eq_false,Classical.not_not] at g1 g2 g3 g4
 first
 | (have hz:(PaR s i):=⟨g1,g2,g3,g4⟩
    rw [decide_eq_true hz] at hQ)
 | (have hz:¬(PaR s i):=fun ⟨q1,q2,q3,q4⟩=>by
      first|exact g1 q1|(rw [g1] at q1;exact absurd q1 (by decide))|exact g2 q2|(rw [g2] at q2;exact absurd q2 (by decide))|exact g3 q3|(rw [g3] at q3;exact absurd q3 (by decide))|exact g4 q4|(rw [g4] at q4;exact absurd q4 (by decide))
    rw [decide_eq_false hz] at hQ)
 refine AW.sr 2 fun K J0=>?_
 have U3:=ca4 g1 g2 g3 g4
 simp only [push_cast,simprocAttr,pC,c3C,U3]
 refine CThen.by (Kf1 _ _ _ _) ?_
 simp only [push_cast,simprocAttr,pC,c3C,U3]
 try (refine CThen.by (Ve5 (s.pc i) _) ?_;simp only [push_cast,simprocAttr,pC,c3C,U3])
 apply J0
 have U4:=ca3 @pC_e @Ja5 U3
 exact AW.f U4 Tru
 )
theorem Jg0 (s:SC)(R:RWs):scC s R=(hdC s++tlC s R):=rfl
theorem Jf9 (s:SC)(R:RWs):tlC s R=([.int .i64 s.ey,.int .i64 s.lk,.int .i64 s.wd,.sl R.p R.vp 0 s.np,.sl R.t R.vt 0 s.nt,.sl R.j R.vj 0 s.nj,.sl R.x R.vx 0 s.nx]):=rfl
theorem rle_c (s:SC)(R:RWs)(m:Ja1)(hn:s.nt<=1000000000000):Ctr Tryz.prog 73 [.agg (scC s R)] m (.one (.bool (decide (LeR s)))) m:=by
 refine Ctr.en Tryz.func73 [.tmp 2] 29 fun hwf Q hQ=>?_
 have w:=(show IntKind.i64.wrap ((s.nt:Int) - 1)=(s.nt:Int) - 1 from wi (by omega))
 rcases Kh1 (inB s.ey 0 ((s.nt:Int) - 1)=true) (inB s.lk 0 ((s.nt:Int) - 1)=true) (1<=s.wd) (s.wd<=524288) with ⟨g1,g2,g3,g4⟩|⟨g1,g2,g3,g4⟩|⟨g1,g2,g3,g4⟩|⟨g1,g2,g3,g4⟩|⟨g1,g2,g3,g4⟩ <;>
 (
 try simp only [Bool.not_eq_true,Bool.not_eq_false,Classical.not_not] at g1 g2 g3 g4
 first
 | (have hz:(LeR s):=⟨g1,g2,g3,g4⟩
    rw [decide_eq_true hz] at hQ)
 | (have hz:¬(LeR s):=fun ⟨q1,q2,q3,q4⟩=>by
      first|exact g1 q1|(rw [g1] at q1;exact absurd q1 (by decide))|exact g2 q2|(rw [g2] at q2;exact absurd q2 (by decide))|exact g3 q3|(rw [g3] at q3;exact absurd q3 (by decide))|exact g4 q4|(rw [g4] at q4;exact absurd q4 (by decide))
    rw [decide_eq_false hz] at hQ)
 refine AW.sr 2 fun K J0=>?_
 have U1:=ca4 g1 g2 g3 (ca2 g4 w)
 simp only [push_cast,simprocAttr,scC,hdC,tlC,c3C,U1]
 refine CThen.by (Kf1 _ _ _ _) ?_
 simp only [push_cast,simprocAttr,scC,hdC,tlC,c3C,U1]
 try (refine CThen.by (Kf1 _ _ _ _) ?_;simp only [push_cast,simprocAttr,scC,hdC,tlC,c3C,U1])
 apply J0
 have U2:=ca4 @Jg0 @Jf6 @Jf9 (ca2 @Ja5 U1)
 exact AW.f U2 Tru
 )
theorem rjo_c (s:SC)(R:RWs)(i:Nat)(m:Ja1)(hn:s.nt<=1000000000000)(hj:∃ k e,m[R.j]?=some ⟨k,146,R.vj,e,Jb2 s.nj (jC s)⟩)(hi:i<s.nj)(hnj:s.nj<=1000000000000):Ctr Tryz.prog 71 [.agg (scC s R),.one (.int .i64 (i:Int))] m (.one (.bool (decide (JoR s i)))) m:=by
 refine Ctr.en Tryz.func71 [.tmp 4] 44 fun hwf Q hQ=>?_
 obtain ⟨kj,ej,hj⟩:=hj
 have lj:=Ja7 hj
 have w:=(show IntKind.i64.wrap ((s.nt:Int) - 1)=(s.nt:Int) - 1 from wi (by omega))
 have w2:=(show IntKind.i64.wrap ((i:Int) - 1)=(i:Int) - 1 from wi (by omega))
 have jl:(Jb2 s.nj (jC s)).length=s.nj*4:=Ja6 (w:=4) (F:=jC s) (fun _=>rfl) _
 have ja:((Jb2 s.nj (jC s)).drop (i*4)).take 4=jC s i:=Jb7 (w:=4) (F:=jC s) (fun _=>rfl) hi
 have c1:(0:Int)<=(i:Int):=by omega
 have c2:(i:Int)<(s.nj:Int):=by omega
 have c3:i*4+4<=s.nj*4:=by omega
 have ej0:=Ve9 s i
 rcases Qp2 (inB (s.jp i) (-1) ((i:Int) - 1)=true) (inB (s.jm i) (-1) ((s.nt:Int) - 1)=true) (inB (s.jt i) (-1) ((s.nt:Int) - 1)=true) (1<=s.js i) (s.js i<=4194304) with ⟨g1,g2,g3,g4,g5⟩|⟨g1,g2,g3,g4,g5⟩|⟨g1,g2,g3,g4,g5⟩|⟨g1,g2,g3,g4,g5⟩|⟨g1,g2,g3,g4,g5⟩|⟨g1,g2,g3,g4,g5⟩ <;>
 (
 try simp only [Bool.not_eq_true,Bool.not_eq_false,Classical.not_not] at g1 g2 g3 g4 g5
 first
 | (have hz:(JoR s i):=⟨g1,g2,g3,g4,g5⟩
    rw [decide_eq_true hz] at hQ)
 | (have hz:¬(JoR s i):=fun ⟨q1,q2,q3,q4,q5⟩=>by
      first|exact g1 q1|(rw [g1] at q1;exact absurd q1 (by decide))|exact g2 q2|(rw [g2] at q2;exact absurd q2 (by decide))|exact g3 q3|(rw [g3] at q3;exact absurd q3 (by decide))|exact g4 q4|(rw [g4] at q4;exact absurd q4 (by decide))|exact g5 q5|(rw [g5] at q5;exact absurd q5 (by decide))
    rw [decide_eq_false hz] at hQ)
 refine AW.sr 3 fun K J0=>?_
 have U3:=ca4 g1 g2 g3 (ca4 g4 g5 w (ca4 w2 hj (Ja4 hj) (ca4 jl ja c1 (ca3 c2 c3 ej0))))
 simp only [push_cast,simprocAttr,scC,hdC,tlC,c3C,U3]
 refine CThen.by (Kf1 _ _ _ _) ?_
 simp only [push_cast,simprocAttr,scC,hdC,tlC,c3C,U3]
 try (refine CThen.by (Kf1 _ _ _ _) ?_;simp only [push_cast,simprocAttr,scC,hdC,tlC,c3C,U3])
 try (refine CThen.by (Kf1 _ _ _ _) ?_;simp only [push_cast,simprocAttr,scC,hdC,tlC,c3C,U3])
 apply J0
 have U4:=ca4 @Jg0 @Jf6 @Jf9 (ca2 @Ja5 U3)
 exact AW.f U4 Tru
 )
def keC (T:Nat->Int)(V:Nat->Nat->Int)(j:Nat):List CV:=[.int .i64 (T j),.int .i64 (V j 0),.int .i64 (V j 1),.int .i64 (V j 2)]
theorem Js0 (T:Nat->Int)(V:Nat->Nat->Int)(j:Nat):keC T V j=[.int .i64 (T j),.int .i64 (V j 0),.int .i64 (V j 1),.int .i64 (V j 2)]:=rfl
def KeR (T:Nat->Int)(V:Nat->Nat->Int)(j:Nat):Prop:=0<=T j/\T j<=2097152/\(0<j->T (j - 1)<T j)/\∀ a,a<3->-2147483648<=V j a/\V j a<=2147483648
instance (T:Nat->Int)(V:Nat->Nat->Int)(j:Nat):Decidable (KeR T V j):=by unfold KeR;exact inferInstance
def TrR (w:Int)(n:Nat)(T:Nat->Int)(V:Nat->Nat->Int):Prop:=0<=w/\w<=2/\1<=n/\n<=16/\∀ j,j<n->KeR T V j
instance (w:Int)(n:Nat)(T:Nat->Int)(V:Nat->Nat->Int):Decidable (TrR w n T V):=by unfold TrR;exact inferInstance
theorem Jc4 (f:Nat->Int)(m:Ja1):Ctr Tryz.prog 175 [.agg (c3C f),.one (.int .i64 0)] m (.one (.int .i64 (f 0))) m:=by
 exact Ctr.f Tryz.func175 [.tmp 4] 16 @Ja5 Tru
theorem Jd5 (f:Nat->Int)(m:Ja1):Ctr Tryz.prog 175 [.agg (c3C f),.one (.int .i64 1)] m (.one (.int .i64 (f 1))) m:=by
 exact Ctr.f Tryz.func175 [.tmp 4] 16 @Ja5 Tru
theorem Jg1 (f:Nat->Int)(m:Ja1):Ctr Tryz.prog 175 [.agg (c3C f),.one (.int .i64 2)] m (.one (.int .i64 (f 2))) m:=by
 exact Ctr.f Tryz.func175 [.tmp 4] 16 @Ja5 Tru
theorem Ks1 (w:Int)(r v n:Nat)(T:Nat->Int)(V:Nat->Nat->Int)(m:Ja1)(hr:∃ k e,m[r]?=some ⟨k,285,v,e,Jb2 n (keC T V)⟩):Ctr Tryz.prog 70 [.agg [.int .i64 w,.sl r v 0 n]] m (.one (.bool (decide (TrR w n T V)))) m:=by
 refine Ctr.en Tryz.func70 [.tmp 2] 76 fun hwf Q hQ=>?_
 obtain ⟨kk,ek,hr⟩:=hr
 have lr:=Ja7 hr
 have gl:(Jb2 n (keC T V)).length=n*4:=Ja6 (w:=4) (F:=keC T V) (fun _=>rfl) n
 have hbad:∀ {P:Prop},¬TrR w n T V->P=P:=fun _=>rfl
 have U1:=ca3 hr (Ja4 hr) gl
 refine AW.w 2 U1 Tru fun K J0=>?_
 refine AW.q fun K J1=>?_
 have hk:w<0\/(¬w<0/\2<w)\/(¬w<0/\¬2<w/\(n:Int)<1)\/(¬w<0/\¬2<w/\¬(n:Int)<1/\16<(n:Int))\/(¬w<0/\¬2<w/\¬(n:Int)<1/\¬16<(n:Int)):=by omega
 rcases hk with g1|⟨g1,g2⟩|⟨g1,g2,g3⟩|⟨g1,g2,g3,g4⟩|⟨g1,g2,g3,g4⟩
 ·rw [show decide (TrR w n T V)=false from decide_eq_false (fun h=>by have q1:=h.1;have q2:=h.2.1;have q3:=h.2.2.1;have q4:=h.2.2.2.1;omega)] at hQ
  have U2:=ca2 U1 g1
  exact AW.f U2 Tru
 ·rw [show decide (TrR w n T V)=false from decide_eq_false (fun h=>by have q1:=h.1;have q2:=h.2.1;have q3:=h.2.2.1;have q4:=h.2.2.2.1;omega)] at hQ
  have U3:=ca3 U1 g1 g2
  exact AW.f U3 Tru
 ·rw [show decide (TrR w n T V)=false from decide_eq_false (fun h=>by have q1:=h.1;have q2:=h.2.1;have q3:=h.2.2.1;have q4:=h.2.2.2.1;omega)] at hQ
  have U4:=ca4 U1 g1 g2 g3
  exact AW.f U4 Tru
 ·rw [show decide (TrR w n T V)=false from decide_eq_false (fun h=>by have q1:=h.1;have q2:=h.2.1;have q3:=h.2.2.1;have q4:=h.2.2.2.1;omega)] at hQ
  have U5:=ca4 U1 g1 g2 (ca2 g3 g4)
  exact AW.f U5 Tru
 have hn1:n<=16:=by omega
 have U6:=ca4 U1 g1 g2 (ca2 g3 g4)
 refine AW.w 8 U6 Tru fun K J0=>?_
 refine AW.loopK [1] (fun i=>i<=n/\∀ k,k<i->KeR T V k) (fun i=>[(3,.one (.int .i64 (i:Int)))]) (fun i=>[]) (fun i=>n - i) 0 ⟨by omega,fun k hk=>by omega⟩ ?_ ?_ fun i hi4=>?_
 · first|rfl|(simp only [KS,simprocAttr,Int.natCast_zero]<;>repeat' (first|rfl|apply And.intro))
 · first|rfl|(simp only [Ja2,push_cast,simprocAttr,U6,Int.natCast_zero]<;>rfl)
 obtain ⟨hin,hok⟩:=hi4
 try simp only [Ja9,Ja2,push_cast,simprocAttr,U6]
 refine AW.w 2 U6 Tru fun K J1=>?_
 refine AW.cond rfl (fun h30=>?_) (fun h30=>?_)
 ·have hlt:i<n:=by have:=of_decide_eq_true h30;omega
  have c1:(0:Int)<=(i:Int):=by omega
  have c2:(i:Int)<(n:Int):=by omega
  have c3:i*4+4<=n*4:=by omega
  have ga:=Jb7 (w:=4) (F:=keC T V) (fun _=>rfl) hlt
  have gk:=Js0 T V i
  have gv:c3C (V i)=[.int .i64 (V i 0),.int .i64 (V i 1),.int .i64 (V i 2)]:=rfl
  refine AW.w 4 Tru Tru fun K J1=>?_
  have U7:=ca4 U6 c1 c2 (ca3 c3 ga gk)
  refine AW.w 2 U7 Tru fun K J2=>?_
  refine AW.q fun K J3=>?_
  have hk:T i<0\/(¬T i<0/\2097152<T i)\/(¬T i<0/\¬2097152<T i/\i=0)\/(¬T i<0/\¬2097152<T i/\0<i/\T i<=T (i - 1))\/(¬T i<0/\¬2097152<T i/\0<i/\¬T i<=T (i - 1)):=by omega
  rcases hk with e1|⟨e1,e2⟩|⟨e1,e2,e3⟩|⟨e1,e2,e3,e4⟩|⟨e1,e2,e3,e4⟩
  ·rw [show decide (TrR w n T V)=false from decide_eq_false (fun h9=>(fun h:KeR T V i=>(by have h1:=h.1;omega)) (h9.2.2.2.2 i hlt))] at hQ
   have U8:=ca2 U7 e1
   exact AW.fd [[.val,.rd 0,.val,.val,.val,.rd 0,.val,.val,.val,.val,.val,.val,.val,.rd 0,.val,.rd 0,.val,.val,.val,.val,.rd 0,.val,.val,.val]] U8 Tru
  ·rw [show decide (TrR w n T V)=false from decide_eq_false (fun h9=>(fun h:KeR T V i=>(by have h1:=h.2.1;omega)) (h9.2.2.2.2 i hlt))] at hQ
   have U9:=ca3 U7 e1 e2
   exact AW.fd [[.val,.rd 0,.val,.val,.val,.rd 0,.val,.val,.val,.val,.val,.val,.val,.rd 0,.val,.rd 0,.val,.val,.val,.val,.rd 0,.val,.val,.val]] U9 Tru
  ·have e5:¬(0:Int)<(i:Int):=by omega
   have e6:0<i->T (i - 1)<T i:=fun h=>by omega
   have U10:=ca4 U7 e1 e2 e5
   refine AW.wd [[.val,.rd 0,.val,.val,.val,.rd 0,.val,.val,.val,.val,.val,.val,.val,.rd 0,.val,.rd 0,.val,.val,.val,.val,.rd 0,.val,.val,.val]] 7 U10 Tru ?_
   refine AW.r 4 ?_
   refine AW.w 8 U10 Tru fun K J2 K J3=>?_
   refine AW.q fun K J4=>?_
   have hk0:(-2147483648<=V i 0/\V i 0<=2147483648)\/¬(-2147483648<=V i 0/\V i 0<=2147483648):=Classical.em _
   rcases hk0 with f0|f0
   ·have b0:(V i 0 !=Ja3 (V i 0))=false:=by rw [Jb4 f0];exact bne_self_eq_false _
    have U11:=ca2 U10 b0
    refine AW.wd [[.val,.val,.val,.rd 0,.val,.val,.val,.rd 0,.ext,.val]] 9 U11 Ji8 fun K J2 K J3=>?_
    refine AW.w 6 U10 Tru fun K J3=>?_
    refine AW.q fun K J4=>?_
    have hk1:(-2147483648<=V i 1/\V i 1<=2147483648)\/¬(-2147483648<=V i 1/\V i 1<=2147483648):=Classical.em _
    rcases hk1 with f1|f1
    ·have b1:(V i 1 !=Ja3 (V i 1))=false:=by rw [Jb4 f1];exact bne_self_eq_false _
     have U12:=ca2 U10 b1
     refine AW.wd [[.val,.val,.val,.rd 0,.val,.val,.val,.rd 0,.ext,.val]] 9 U12 Ji8 fun K J2 K J3=>?_
     refine AW.w 6 U10 Tru fun K J3=>?_
     refine AW.q fun K J4=>?_
     have hk2:(-2147483648<=V i 2/\V i 2<=2147483648)\/¬(-2147483648<=V i 2/\V i 2<=2147483648):=Classical.em _
     rcases hk2 with f2|f2
     ·have b2:(V i 2 !=Ja3 (V i 2))=false:=by rw [Jb4 f2];exact bne_self_eq_false _
      have U13:=ca2 U10 b2
      refine AW.wd [[.val,.val,.val,.rd 0,.val,.val,.val,.rd 0,.ext,.val]] 9 U13 Ji8 fun K J2 K J3=>?_
      refine AW.w 5 U10 Tru ?_
      have hwi:IntKind.i64.wrap ((i:Int)+1)=(i:Int)+1:=wi (by omega)
      have hnow:KeR T V i:=⟨by omega,by omega,e6,fun a ha=>by
        match a,ha with
        | 0,_=>omega
        | 1,_=>omega
        | 2,_=>omega⟩
      exact Wj (i+1) U10 hwi Tru (hI:=⟨by omega,fun k hk=>by
        rcases Nat.lt_or_ge k i with h|h
        · exact hok k h
        obtain rfl:k=i:=by omega
        exact hnow⟩)
     have b2:(V i 2 !=Ja3 (V i 2))=true:=by
       have:=Jc6 (V i 2)
       exact bne_iff_ne.2 fun e=>by rw [e] at f2;exact f2 this
     rw [show decide (TrR w n T V)=false from decide_eq_false (fun h9=>(fun h:KeR T V i=>f2 (h.2.2.2 2 (by omega))) (h9.2.2.2.2 i hlt))] at hQ
     have U14:=ca2 U10 b2
     exact AW.fd [[.val,.val,.val,.rd 0,.val,.val,.val,.rd 0,.ext,.val]] U14 Ji8
    have b1:(V i 1 !=Ja3 (V i 1))=true:=by
      have:=Jc6 (V i 1)
      exact bne_iff_ne.2 fun e=>by rw [e] at f1;exact f1 this
    rw [show decide (TrR w n T V)=false from decide_eq_false (fun h9=>(fun h:KeR T V i=>f1 (h.2.2.2 1 (by omega))) (h9.2.2.2.2 i hlt))] at hQ
    have U15:=ca2 U10 b1
    exact AW.fd [[.val,.val,.val,.rd 0,.val,.val,.val,.rd 0,.ext,.val]] U15 Ji8
   have b0:(V i 0 !=Ja3 (V i 0))=true:=by
     have:=Jc6 (V i 0)
     exact bne_iff_ne.2 fun e=>by rw [e] at f0;exact f0 this
   rw [show decide (TrR w n T V)=false from decide_eq_false (fun h9=>(fun h:KeR T V i=>f0 (h.2.2.2 0 (by omega))) (h9.2.2.2.2 i hlt))] at hQ
   have U16:=ca2 U10 b0
   exact AW.fd [[.val,.val,.val,.rd 0,.val,.val,.val,.rd 0,.ext,.val]] U16 Ji8
  ·rw [show decide (TrR w n T V)=false from decide_eq_false (fun h9=>(fun h:KeR T V i=>(by have h1:=h.2.2.1 e3;omega)) (h9.2.2.2.2 i hlt))] at hQ
   have e5:(0:Int)<(i:Int):=by omega
   obtain ⟨j,hj⟩:∃ j,j=i - 1:=⟨_,rfl⟩
   have p1:IntKind.i64.wrap ((i:Int) - 1)=(j:Int):=by rw [wi (by omega)];omega
   have p2:(0:Int)<=(j:Int):=by omega
   have p3:(j:Int)<(n:Int):=by omega
   have p4:j*4+4<=n*4:=by omega
   have p5:j<n:=by omega
   have ha:=Jb7 (w:=4) (F:=keC T V) (fun _=>rfl) p5
   rw [<-hj] at e4
   have p6:(Jb2 n (keC T V))[j*4]?=some (.int .i64 (T j)):=Jg9 (w:=4) (F:=keC T V) (fun _=>rfl) p5 (a:=0) (by omega)
   have U17:=ca4 U7 e1 e2 (ca4 e4 e5 p1 (ca4 p2 p3 p4 (ca3 p5 p6 ha)))
   exact AW.fd [[.val,.rd 0,.val,.val,.val,.rd 0,.val,.val,.val,.val,.val,.val,.val,.rd 0,.val,.rd 0,.val,.val,.val,.val,.rd 0,.val,.val,.val]] U17 Tru
  have e5:(0:Int)<(i:Int):=by omega
  obtain ⟨j,hj⟩:∃ j,j=i - 1:=⟨_,rfl⟩
  have p1:IntKind.i64.wrap ((i:Int) - 1)=(j:Int):=by rw [wi (by omega)];omega
  have p2:(0:Int)<=(j:Int):=by omega
  have p3:(j:Int)<(n:Int):=by omega
  have p4:j*4+4<=n*4:=by omega
  have p5:j<n:=by omega
  have ha:=Jb7 (w:=4) (F:=keC T V) (fun _=>rfl) p5
  rw [<-hj] at e4
  have p6:(Jb2 n (keC T V))[j*4]?=some (.int .i64 (T j)):=Jg9 (w:=4) (F:=keC T V) (fun _=>rfl) p5 (a:=0) (by omega)
  have e6:0<i->T (i - 1)<T i:=fun _=>by rw [<-hj];omega
  have U18:=ca4 U7 e1 e2 (ca4 e4 e5 p1 (ca4 p2 p3 p4 (ca3 p5 p6 ha)))
  refine AW.wd [[.val,.rd 0,.val,.val,.val,.rd 0,.val,.val,.val,.val,.val,.val,.val,.rd 0,.val,.rd 0,.val,.val,.val,.val,.rd 0,.val,.val,.val]] 7 U18 Tru ?_
  refine AW.r 4 ?_
  refine AW.w 8 U18 Tru fun K J2 K J3=>?_
  refine AW.q fun K J4=>?_
  have hk0:(-2147483648<=V i 0/\V i 0<=2147483648)\/¬(-2147483648<=V i 0/\V i 0<=2147483648):=Classical.em _
  rcases hk0 with f0|f0
  ·have b0:(V i 0 !=Ja3 (V i 0))=false:=by rw [Jb4 f0];exact bne_self_eq_false _
   have U19:=ca2 U18 b0
   refine AW.wd [[.val,.val,.val,.rd 0,.val,.val,.val,.rd 0,.ext,.val]] 9 U19 Ji8 fun K J2 K J3=>?_
   refine AW.w 6 U18 Tru fun K J3=>?_
   refine AW.q fun K J4=>?_
   have hk1:(-2147483648<=V i 1/\V i 1<=2147483648)\/¬(-2147483648<=V i 1/\V i 1<=2147483648):=Classical.em _
   rcases hk1 with f1|f1
   ·have b1:(V i 1 !=Ja3 (V i 1))=false:=by rw [Jb4 f1];exact bne_self_eq_false _
    have U20:=ca2 U18 b1
    refine AW.wd [[.val,.val,.val,.rd 0,.val,.val,.val,.rd 0,.ext,.val]] 9 U20 Ji8 fun K J2 K J3=>?_
    refine AW.w 6 U18 Tru fun K J3=>?_
    refine AW.q fun K J4=>?_
    have hk2:(-2147483648<=V i 2/\V i 2<=2147483648)\/¬(-2147483648<=V i 2/\V i 2<=2147483648):=Classical.em _
    rcases hk2 with f2|f2
    ·have b2:(V i 2 !=Ja3 (V i 2))=false:=by rw [Jb4 f2];exact bne_self_eq_false _
     have U21:=ca2 U18 b2
     refine AW.wd [[.val,.val,.val,.rd 0,.val,.val,.val,.rd 0,.ext,.val]] 9 U21 Ji8 fun K J2 K J3=>?_
     refine AW.w 5 U18 Tru ?_
     have hwi:IntKind.i64.wrap ((i:Int)+1)=(i:Int)+1:=wi (by omega)
     have hnow:KeR T V i:=⟨by omega,by omega,e6,fun a ha=>by
       match a,ha with
       | 0,_=>omega
       | 1,_=>omega
       | 2,_=>omega⟩
     exact Wj (i+1) U18 hwi Tru (hI:=⟨by omega,fun k hk=>by
       rcases Nat.lt_or_ge k i with h|h
       · exact hok k h
       obtain rfl:k=i:=by omega
       exact hnow⟩)
    have b2:(V i 2 !=Ja3 (V i 2))=true:=by
      have:=Jc6 (V i 2)
      exact bne_iff_ne.2 fun e=>by rw [e] at f2;exact f2 this
    rw [show decide (TrR w n T V)=false from decide_eq_false (fun h9=>(fun h:KeR T V i=>f2 (h.2.2.2 2 (by omega))) (h9.2.2.2.2 i hlt))] at hQ
    have U22:=ca2 U18 b2
    exact AW.fd [[.val,.val,.val,.rd 0,.val,.val,.val,.rd 0,.ext,.val]] U22 Ji8
   have b1:(V i 1 !=Ja3 (V i 1))=true:=by
     have:=Jc6 (V i 1)
     exact bne_iff_ne.2 fun e=>by rw [e] at f1;exact f1 this
   rw [show decide (TrR w n T V)=false from decide_eq_false (fun h9=>(fun h:KeR T V i=>f1 (h.2.2.2 1 (by omega))) (h9.2.2.2.2 i hlt))] at hQ
   have U23:=ca2 U18 b1
   exact AW.fd [[.val,.val,.val,.rd 0,.val,.val,.val,.rd 0,.ext,.val]] U23 Ji8
  have b0:(V i 0 !=Ja3 (V i 0))=true:=by
    have:=Jc6 (V i 0)
    exact bne_iff_ne.2 fun e=>by rw [e] at f0;exact f0 this
  rw [show decide (TrR w n T V)=false from decide_eq_false (fun h9=>(fun h:KeR T V i=>f0 (h.2.2.2 0 (by omega))) (h9.2.2.2.2 i hlt))] at hQ
  have U24:=ca2 U18 b0
  exact AW.fd [[.val,.val,.val,.rd 0,.val,.val,.val,.rd 0,.ext,.val]] U24 Ji8
 have hie:i=n:=by have:=of_decide_eq_false h30;omega
 rw [show decide (TrR w n T V)=true from decide_eq_true ⟨by omega,by omega,by omega,by omega,fun k hk=>hok k (by omega)⟩] at hQ
 exact AW.f U6 Tru
theorem Kt1 (w:Int)(r v n:Nat)(T:Nat->Int)(V:Nat->Nat->Int)(m:Ja1)(hr:∃ k e,m[r]?=some ⟨k,223,v,e,Jb2 n (keC T V)⟩):Ctr Tryz.prog 95 [.agg [.int .i64 w,.sl r v 0 n]] m (.one (.bool (decide (TrR w n T V)))) m:=by
 refine Ctr.en Tryz.func95 [.tmp 2] 74 fun hwf Q hQ=>?_
 obtain ⟨kk,ek,hr⟩:=hr
 have lr:=Ja7 hr
 have gl:(Jb2 n (keC T V)).length=n*4:=Ja6 (w:=4) (F:=keC T V) (fun _=>rfl) n
 have hbad:∀ {P:Prop},¬TrR w n T V->P=P:=fun _=>rfl
 have U25:=ca3 hr (Ja4 hr) gl
 refine AW.w 2 U25 Tru fun K J0=>?_
 refine AW.q fun K J1=>?_
 have hk:w<0\/(¬w<0/\2<w)\/(¬w<0/\¬2<w/\(n:Int)<1)\/(¬w<0/\¬2<w/\¬(n:Int)<1/\16<(n:Int))\/(¬w<0/\¬2<w/\¬(n:Int)<1/\¬16<(n:Int)):=by omega
 rcases hk with g1|⟨g1,g2⟩|⟨g1,g2,g3⟩|⟨g1,g2,g3,g4⟩|⟨g1,g2,g3,g4⟩
 ·rw [show decide (TrR w n T V)=false from decide_eq_false (fun h=>by have q1:=h.1;have q2:=h.2.1;have q3:=h.2.2.1;have q4:=h.2.2.2.1;omega)] at hQ
  have U26:=ca2 U25 g1
  exact AW.f U26 Tru
 ·rw [show decide (TrR w n T V)=false from decide_eq_false (fun h=>by have q1:=h.1;have q2:=h.2.1;have q3:=h.2.2.1;have q4:=h.2.2.2.1;omega)] at hQ
  have U27:=ca3 U25 g1 g2
  exact AW.f U27 Tru
 ·rw [show decide (TrR w n T V)=false from decide_eq_false (fun h=>by have q1:=h.1;have q2:=h.2.1;have q3:=h.2.2.1;have q4:=h.2.2.2.1;omega)] at hQ
  have U28:=ca4 U25 g1 g2 g3
  exact AW.f U28 Tru
 ·rw [show decide (TrR w n T V)=false from decide_eq_false (fun h=>by have q1:=h.1;have q2:=h.2.1;have q3:=h.2.2.1;have q4:=h.2.2.2.1;omega)] at hQ
  have U29:=ca4 U25 g1 g2 (ca2 g3 g4)
  exact AW.f U29 Tru
 have hn1:n<=16:=by omega
 have U30:=ca4 U25 g1 g2 (ca2 g3 g4)
 refine AW.w 8 U30 Tru fun K J0=>?_
 refine AW.loopK [1,28,29] (fun i=>i<=n/\∀ k,k<i->KeR T V k) (fun i=>[(30,.one (.int .i64 (i:Int)))]) (fun i=>[]) (fun i=>n - i) 0 ⟨by omega,fun k hk=>by omega⟩ ?_ ?_ fun i hi4=>?_
 · first|rfl|(simp only [KS,simprocAttr,Int.natCast_zero]<;>repeat' (first|rfl|apply And.intro))
 · first|rfl|(simp only [Ja2,push_cast,simprocAttr,U30,Int.natCast_zero]<;>rfl)
 obtain ⟨hin,hok⟩:=hi4
 try simp only [Ja9,Ja2,push_cast,simprocAttr,U30]
 refine AW.w 2 U30 Tru fun K J1=>?_
 refine AW.cond rfl (fun h31=>?_) (fun h31=>?_)
 ·have hlt:i<n:=by have:=of_decide_eq_true h31;omega
  have c1:(0:Int)<=(i:Int):=by omega
  have c2:(i:Int)<(n:Int):=by omega
  have c3:i*4+4<=n*4:=by omega
  have ga:=Jb7 (w:=4) (F:=keC T V) (fun _=>rfl) hlt
  have gk:=Js0 T V i
  have gv:c3C (V i)=[.int .i64 (V i 0),.int .i64 (V i 1),.int .i64 (V i 2)]:=rfl
  refine AW.w 4 Tru Tru fun K J1=>?_
  have U31:=ca4 U30 c1 c2 (ca3 c3 ga gk)
  refine AW.w 2 U31 Tru fun K J2=>?_
  refine AW.q fun K J3=>?_
  have hk:T i<0\/(¬T i<0/\2097152<T i)\/(¬T i<0/\¬2097152<T i/\i=0)\/(¬T i<0/\¬2097152<T i/\0<i/\T i<=T (i - 1))\/(¬T i<0/\¬2097152<T i/\0<i/\¬T i<=T (i - 1)):=by omega
  rcases hk with e1|⟨e1,e2⟩|⟨e1,e2,e3⟩|⟨e1,e2,e3,e4⟩|⟨e1,e2,e3,e4⟩
  ·rw [show decide (TrR w n T V)=false from decide_eq_false (fun h9=>(fun h:KeR T V i=>(by have h1:=h.1;omega)) (h9.2.2.2.2 i hlt))] at hQ
   have U32:=ca2 U31 e1
   exact AW.fd [[.val,.rd 0,.val,.val,.val,.rd 0,.val,.val,.val,.val,.val,.val,.val,.rd 0,.val,.val,.val,.val,.rd 0,.val,.rd 0,.val,.val,.val]] U32 Tru
  ·rw [show decide (TrR w n T V)=false from decide_eq_false (fun h9=>(fun h:KeR T V i=>(by have h1:=h.2.1;omega)) (h9.2.2.2.2 i hlt))] at hQ
   have U33:=ca3 U31 e1 e2
   exact AW.fd [[.val,.rd 0,.val,.val,.val,.rd 0,.val,.val,.val,.val,.val,.val,.val,.rd 0,.val,.val,.val,.val,.rd 0,.val,.rd 0,.val,.val,.val]] U33 Tru
  ·have e5:¬(0:Int)<(i:Int):=by omega
   have e6:0<i->T (i - 1)<T i:=fun h=>by omega
   have U34:=ca4 U31 e1 e2 e5
   refine AW.wd [[.val,.rd 0,.val,.val,.val,.rd 0,.val,.val,.val,.val,.val,.val,.val,.rd 0,.val,.val,.val,.val,.rd 0,.val,.rd 0,.val,.val,.val]] 7 U34 Tru ?_
   refine AW.r 4 ?_
   refine AW.w 7 U34 (Jc4 (V i)) fun K J2 K J3=>?_
   refine AW.q fun K J4=>?_
   have hk0:V i 0 < -2147483648\/(¬V i 0 < -2147483648/\2147483648<V i 0)\/(¬V i 0 < -2147483648/\¬2147483648<V i 0):=by omega
   rcases hk0 with f0|⟨f0,b0⟩|⟨f0,b0⟩
   ·rw [show decide (TrR w n T V)=false from decide_eq_false (fun h9=>(fun h:KeR T V i=>(by have:=h.2.2.2 0 (by omega);omega)) (h9.2.2.2.2 i hlt))] at hQ
    have U35:=ca2 U34 f0
    exact AW.f U35 Tru
   ·rw [show decide (TrR w n T V)=false from decide_eq_false (fun h9=>(fun h:KeR T V i=>(by have:=h.2.2.2 0 (by omega);omega)) (h9.2.2.2.2 i hlt))] at hQ
    have U36:=ca3 U34 f0 b0
    exact AW.f U36 Tru
   have ok0:=True.intro
   have U37:=ca3 U34 f0 b0
   refine AW.w 8 U37 Tru fun K J2=>?_
   refine AW.w 6 U34 (Jd5 (V i)) fun K J3=>?_
   refine AW.q fun K J4=>?_
   have hk1:V i 1 < -2147483648\/(¬V i 1 < -2147483648/\2147483648<V i 1)\/(¬V i 1 < -2147483648/\¬2147483648<V i 1):=by omega
   rcases hk1 with f1|⟨f1,b1⟩|⟨f1,b1⟩
   ·rw [show decide (TrR w n T V)=false from decide_eq_false (fun h9=>(fun h:KeR T V i=>(by have:=h.2.2.2 1 (by omega);omega)) (h9.2.2.2.2 i hlt))] at hQ
    have U38:=ca2 U34 f1
    exact AW.f U38 Tru
   ·rw [show decide (TrR w n T V)=false from decide_eq_false (fun h9=>(fun h:KeR T V i=>(by have:=h.2.2.2 1 (by omega);omega)) (h9.2.2.2.2 i hlt))] at hQ
    have U39:=ca3 U34 f1 b1
    exact AW.f U39 Tru
   have ok1:=True.intro
   have U40:=ca3 U34 f1 b1
   refine AW.w 8 U40 Tru fun K J2=>?_
   refine AW.w 6 U34 (Jg1 (V i)) fun K J3=>?_
   refine AW.q fun K J4=>?_
   have hk2:V i 2 < -2147483648\/(¬V i 2 < -2147483648/\2147483648<V i 2)\/(¬V i 2 < -2147483648/\¬2147483648<V i 2):=by omega
   rcases hk2 with f2|⟨f2,b2⟩|⟨f2,b2⟩
   ·rw [show decide (TrR w n T V)=false from decide_eq_false (fun h9=>(fun h:KeR T V i=>(by have:=h.2.2.2 2 (by omega);omega)) (h9.2.2.2.2 i hlt))] at hQ
    have U41:=ca2 U34 f2
    exact AW.f U41 Tru
   ·rw [show decide (TrR w n T V)=false from decide_eq_false (fun h9=>(fun h:KeR T V i=>(by have:=h.2.2.2 2 (by omega);omega)) (h9.2.2.2.2 i hlt))] at hQ
    have U42:=ca3 U34 f2 b2
    exact AW.f U42 Tru
   have ok2:=True.intro
   have U43:=ca3 U34 f2 b2
   refine AW.w 8 U43 Tru fun K J2=>?_
   refine AW.w 6 U34 Tru fun K J3=>?_
   have hwi:IntKind.i64.wrap ((i:Int)+1)=(i:Int)+1:=wi (by omega)
   have hnow:KeR T V i:=⟨by omega,by omega,e6,fun a ha=>by
     match a,ha with
     | 0,_=>omega
     | 1,_=>omega
     | 2,_=>omega⟩
   exact Wj (i+1) U34 hwi Tru (hI:=⟨by omega,fun k hk=>by
     rcases Nat.lt_or_ge k i with h|h
     · exact hok k h
     obtain rfl:k=i:=by omega
     exact hnow⟩)
  ·rw [show decide (TrR w n T V)=false from decide_eq_false (fun h9=>(fun h:KeR T V i=>(by have h1:=h.2.2.1 e3;omega)) (h9.2.2.2.2 i hlt))] at hQ
   have e5:(0:Int)<(i:Int):=by omega
   obtain ⟨j,hj⟩:∃ j,j=i - 1:=⟨_,rfl⟩
   have p1:IntKind.i64.wrap ((i:Int) - 1)=(j:Int):=by rw [wi (by omega)];omega
   have p2:(0:Int)<=(j:Int):=by omega
   have p3:(j:Int)<(n:Int):=by omega
   have p4:j*4+4<=n*4:=by omega
   have p5:j<n:=by omega
   have ha:=Jb7 (w:=4) (F:=keC T V) (fun _=>rfl) p5
   rw [<-hj] at e4
   have p6:(Jb2 n (keC T V))[j*4]?=some (.int .i64 (T j)):=Jg9 (w:=4) (F:=keC T V) (fun _=>rfl) p5 (a:=0) (by omega)
   have U44:=ca4 U31 e1 e2 (ca4 e4 e5 p1 (ca4 p2 p3 p4 (ca3 p5 p6 ha)))
   exact AW.fd [[.val,.rd 0,.val,.val,.val,.rd 0,.val,.val,.val,.val,.val,.val,.val,.rd 0,.val,.val,.val,.val,.rd 0,.val,.rd 0,.val,.val,.val]] U44 Tru
  have e5:(0:Int)<(i:Int):=by omega
  obtain ⟨j,hj⟩:∃ j,j=i - 1:=⟨_,rfl⟩
  have p1:IntKind.i64.wrap ((i:Int) - 1)=(j:Int):=by rw [wi (by omega)];omega
  have p2:(0:Int)<=(j:Int):=by omega
  have p3:(j:Int)<(n:Int):=by omega
  have p4:j*4+4<=n*4:=by omega
  have p5:j<n:=by omega
  have ha:=Jb7 (w:=4) (F:=keC T V) (fun _=>rfl) p5
  rw [<-hj] at e4
  have p6:(Jb2 n (keC T V))[j*4]?=some (.int .i64 (T j)):=Jg9 (w:=4) (F:=keC T V) (fun _=>rfl) p5 (a:=0) (by omega)
  have e6:0<i->T (i - 1)<T i:=fun _=>by rw [<-hj];omega
  have U45:=ca4 U31 e1 e2 (ca4 e4 e5 p1 (ca4 p2 p3 p4 (ca3 p5 p6 ha)))
  refine AW.wd [[.val,.rd 0,.val,.val,.val,.rd 0,.val,.val,.val,.val,.val,.val,.val,.rd 0,.val,.val,.val,.val,.rd 0,.val,.rd 0,.val,.val,.val]] 7 U45 Tru ?_
  refine AW.r 4 ?_
  refine AW.w 7 U45 (Jc4 (V i)) fun K J2 K J3=>?_
  refine AW.q fun K J4=>?_
  have hk0:V i 0 < -2147483648\/(¬V i 0 < -2147483648/\2147483648<V i 0)\/(¬V i 0 < -2147483648/\¬2147483648<V i 0):=by omega
  rcases hk0 with f0|⟨f0,b0⟩|⟨f0,b0⟩
  ·rw [show decide (TrR w n T V)=false from decide_eq_false (fun h9=>(fun h:KeR T V i=>(by have:=h.2.2.2 0 (by omega);omega)) (h9.2.2.2.2 i hlt))] at hQ
   have U46:=ca2 U45 f0
   exact AW.f U46 Tru
  ·rw [show decide (TrR w n T V)=false from decide_eq_false (fun h9=>(fun h:KeR T V i=>(by have:=h.2.2.2 0 (by omega);omega)) (h9.2.2.2.2 i hlt))] at hQ
   have U47:=ca3 U45 f0 b0
   exact AW.f U47 Tru
  have ok0:=True.intro
  have U48:=ca3 U45 f0 b0
  refine AW.w 8 U48 Tru fun K J2=>?_
  refine AW.w 6 U45 (Jd5 (V i)) fun K J3=>?_
  refine AW.q fun K J4=>?_
  have hk1:V i 1 < -2147483648\/(¬V i 1 < -2147483648/\2147483648<V i 1)\/(¬V i 1 < -2147483648/\¬2147483648<V i 1):=by omega
  rcases hk1 with f1|⟨f1,b1⟩|⟨f1,b1⟩
  ·rw [show decide (TrR w n T V)=false from decide_eq_false (fun h9=>(fun h:KeR T V i=>(by have:=h.2.2.2 1 (by omega);omega)) (h9.2.2.2.2 i hlt))] at hQ
   have U49:=ca2 U45 f1
   exact AW.f U49 Tru
  ·rw [show decide (TrR w n T V)=false from decide_eq_false (fun h9=>(fun h:KeR T V i=>(by have:=h.2.2.2 1 (by omega);omega)) (h9.2.2.2.2 i hlt))] at hQ
   have U50:=ca3 U45 f1 b1
   exact AW.f U50 Tru
  have ok1:=True.intro
  have U51:=ca3 U45 f1 b1
  refine AW.w 8 U51 Tru fun K J2=>?_
  refine AW.w 6 U45 (Jg1 (V i)) fun K J3=>?_
  refine AW.q fun K J4=>?_
  have hk2:V i 2 < -2147483648\/(¬V i 2 < -2147483648/\2147483648<V i 2)\/(¬V i 2 < -2147483648/\¬2147483648<V i 2):=by omega
  rcases hk2 with f2|⟨f2,b2⟩|⟨f2,b2⟩
  ·rw [show decide (TrR w n T V)=false from decide_eq_false (fun h9=>(fun h:KeR T V i=>(by have:=h.2.2.2 2 (by omega);omega)) (h9.2.2.2.2 i hlt))] at hQ
   have U52:=ca2 U45 f2
   exact AW.f U52 Tru
  ·rw [show decide (TrR w n T V)=false from decide_eq_false (fun h9=>(fun h:KeR T V i=>(by have:=h.2.2.2 2 (by omega);omega)) (h9.2.2.2.2 i hlt))] at hQ
   have U53:=ca3 U45 f2 b2
   exact AW.f U53 Tru
  have ok2:=True.intro
  have U54:=ca3 U45 f2 b2
  refine AW.w 8 U54 Tru fun K J2=>?_
  refine AW.w 6 U45 Tru fun K J3=>?_
  have hwi:IntKind.i64.wrap ((i:Int)+1)=(i:Int)+1:=wi (by omega)
  have hnow:KeR T V i:=⟨by omega,by omega,e6,fun a ha=>by
    match a,ha with
    | 0,_=>omega
    | 1,_=>omega
    | 2,_=>omega⟩
  exact Wj (i+1) U45 hwi Tru (hI:=⟨by omega,fun k hk=>by
    rcases Nat.lt_or_ge k i with h|h
    · exact hok k h
    obtain rfl:k=i:=by omega
    exact hnow⟩)
 have hie:i=n:=by have:=of_decide_eq_false h31;omega
 rw [show decide (TrR w n T V)=true from decide_eq_true ⟨by omega,by omega,by omega,by omega,fun k hk=>hok k (by omega)⟩] at hQ
 exact AW.f U30 Tru
def z3 (f:Nat->Int):Bool:=f 0 ==0&&(f 1 ==0&&f 2 ==0)
def S0R (s:SC)(i:Nat):Prop:=inB (s.xj i) (-1) ((s.nj:Int) - 1)=true/\inB (s.xp i) 0 ((s.np:Int) - 1)=true/\Ji1 (s.xv i 0) (-16777216) 16777216=true/\z3 (s.xv i 1)=true/\z3 (s.xv i 2)=true/\1<=s.xr i/\s.xr i<=4194304
instance (s:SC)(i:Nat):Decidable (S0R s i):=by unfold S0R;exact inferInstance
def S1R (s:SC)(i:Nat):Prop:=inB (s.xj i) (-1) ((s.nj:Int) - 1)=true/\inB (s.xp i) 0 ((s.np:Int) - 1)=true/\Ji1 (s.xv i 0) (-16777216) 16777216=true/\(s.xk i ==1)=true/\Ji1 (s.xv i 1) (-16777216) 16777216=true/\Ji1 (s.xv i 2) (-16777216) 16777216=true/\(s.xr i ==0)=true
instance (s:SC)(i:Nat):Decidable (S1R s i):=by unfold S1R;exact inferInstance
def ShR (s:SC)(i:Nat):Prop:=if s.xk i=0 then S0R s i else S1R s i
instance (s:SC)(i:Nat):Decidable (ShR s i):=by unfold ShR;exact inferInstance
theorem Xr7 (s:SC)(i:Nat):xC s i=(.int .i64 (s.xj i)::.int .i64 (s.xp i)::.int .i64 (s.xk i)::(c3C (s.xv i 0)++(c3C (s.xv i 1)++(c3C (s.xv i 2)++[.int .i64 (s.xr i)])))):=rfl
theorem Xv2 (s:SC)(R:RWs)(i:Nat)(m:Ja1)(hn:s.nj<=1000000000000)(hp:s.np<=1000000000000)(hb:¬(inB (s.xj i) (-1) ((s.nj:Int) - 1)=true/\inB (s.xp i) 0 ((s.np:Int) - 1)=true/\Ji1 (s.xv i 0) (-16777216) 16777216=true)):Ctr Tryz.prog 72 [.agg (scC s R),.agg (xC s i)] m (.one (.bool false)) m:=by
 refine Ctr.en Tryz.func72 [.tmp 4] 75 fun hwf Q hQ=>?_
 have w1:=(show IntKind.i64.wrap ((s.nj:Int) - 1)=(s.nj:Int) - 1 from wi (by omega))
 have w2:=(show IntKind.i64.wrap ((s.np:Int) - 1)=(s.np:Int) - 1 from wi (by omega))
 rcases Vh6 (inB (s.xj i) (-1) ((s.nj:Int) - 1)=true) (inB (s.xp i) 0 ((s.np:Int) - 1)=true) (Ji1 (s.xv i 0) (-16777216) 16777216=true) with ⟨g1,g2,g3⟩|⟨g1,g2,g3⟩|⟨g1,g2,g3⟩|⟨g1,g2,g3⟩
 · exact absurd ⟨g1,g2,g3⟩ hb
 all_goals (
 try simp only [Bool.not_eq_true,Bool.not_eq_false,Classical.not_not] at g1 g2 g3
 have U1:=ca4 g1 g2 g3 (ca4 @Jg0 @Jf6 @Jf9 (ca4 @Ja5 @Xr7 w1 w2))
 refine AW.c 1 U1 Tru ?_
 refine AW.q fun K J0=>?_
 refine AW.sr 1 fun K J1=>?_
 simp only [push_cast,simprocAttr,U1]
 refine CThen.by (Kf1 _ _ _ _) ?_
 simp only [push_cast,simprocAttr,U1]
 try (refine CThen.by (Kf1 _ _ _ _) ?_;simp only [push_cast,simprocAttr,U1])
 try (refine CThen.by (Km5 _ _) ?_;simp only [push_cast,simprocAttr,U1])
 exact AW.f U1 Tru
 )
theorem Xv4 (s:SC)(R:RWs)(i:Nat)(m:Ja1)(hn:s.nj<=1000000000000)(hp:s.np<=1000000000000)(g1:inB (s.xj i) (-1) ((s.nj:Int) - 1)=true)(g2:inB (s.xp i) 0 ((s.np:Int) - 1)=true)(g3:Ji1 (s.xv i 0) (-16777216) 16777216=true)(hk:s.xk i=0):Ctr Tryz.prog 72 [.agg (scC s R),.agg (xC s i)] m (.one (.bool (decide (S0R s i)))) m:=by
 refine Ctr.en Tryz.func72 [.tmp 4] 75 fun hwf Q hQ=>?_
 have w1:=(show IntKind.i64.wrap ((s.nj:Int) - 1)=(s.nj:Int) - 1 from wi (by omega))
 have w2:=(show IntKind.i64.wrap ((s.np:Int) - 1)=(s.np:Int) - 1 from wi (by omega))
 rcases Kh1 ((s.xv i 1 0 ==0&&(s.xv i 1 1 ==0&&s.xv i 1 2 ==0))=true) ((s.xv i 2 0 ==0&&(s.xv i 2 1 ==0&&s.xv i 2 2 ==0))=true) (1<=s.xr i) (s.xr i<=4194304) with ⟨e1,e2,e3,e4⟩|⟨e1,e2,e3,e4⟩|⟨e1,e2,e3,e4⟩|⟨e1,e2,e3,e4⟩|⟨e1,e2,e3,e4⟩ <;>
 (
 try simp only [Bool.not_eq_true,Bool.not_eq_false,Classical.not_not] at e1 e2 e3 e4
 first
 | (have hz:(S0R s i):=⟨g1,g2,g3,e1,e2,e3,e4⟩
    rw [decide_eq_true hz] at hQ)
 | (have hz:¬(S0R s i):=fun ⟨qg1,qg2,qg3,qe1,qe2,qe3,qe4⟩=>by
      first|exact e1 qe1|exact Bool.false_ne_true (e1.symm.trans qe1)|exact e2 qe2|exact Bool.false_ne_true (e2.symm.trans qe2)|exact e3 qe3|exact Bool.false_ne_true (e3.symm.trans qe3)|exact e4 qe4|exact Bool.false_ne_true (e4.symm.trans qe4)
    rw [decide_eq_false hz] at hQ)
 have U2:=ca4 e1 e2 e3 (ca4 e4 @Jg0 @Jf6 (ca4 @Jf9 @Ja5 @Xr7 (ca4 w1 w2 hk (ca3 g1 g2 g3))))
 exact AW.f U2 (ca2 Kf1 Km5)
 )
theorem Xv3 (s:SC)(R:RWs)(i:Nat)(m:Ja1)(hn:s.nj<=1000000000000)(hp:s.np<=1000000000000)(g1:inB (s.xj i) (-1) ((s.nj:Int) - 1)=true)(g2:inB (s.xp i) 0 ((s.np:Int) - 1)=true)(g3:Ji1 (s.xv i 0) (-16777216) 16777216=true)(hk:¬s.xk i=0):Ctr Tryz.prog 72 [.agg (scC s R),.agg (xC s i)] m (.one (.bool (decide (S1R s i)))) m:=by
 refine Ctr.en Tryz.func72 [.tmp 4] 75 fun hwf Q hQ=>?_
 have w1:=(show IntKind.i64.wrap ((s.nj:Int) - 1)=(s.nj:Int) - 1 from wi (by omega))
 have w2:=(show IntKind.i64.wrap ((s.np:Int) - 1)=(s.np:Int) - 1 from wi (by omega))
 have hk0:(s.xk i ==0)=false:=by simpa using hk
 rcases Kh1 ((s.xk i ==1)=true) (Ji1 (s.xv i 1) (-16777216) 16777216=true) (Ji1 (s.xv i 2) (-16777216) 16777216=true) ((s.xr i ==0)=true) with ⟨e1,e2,e3,e4⟩|⟨e1,e2,e3,e4⟩|⟨e1,e2,e3,e4⟩|⟨e1,e2,e3,e4⟩|⟨e1,e2,e3,e4⟩ <;>
 (
 try simp only [Bool.not_eq_true,Bool.not_eq_false,Classical.not_not] at e1 e2 e3 e4
 first
 | (have hz:(S1R s i):=⟨g1,g2,g3,e1,e2,e3,e4⟩
    rw [decide_eq_true hz] at hQ)
 | (have hz:¬(S1R s i):=fun ⟨qg1,qg2,qg3,qe1,qe2,qe3,qe4⟩=>by
      first|exact e1 qe1|exact Bool.false_ne_true (e1.symm.trans qe1)|exact e2 qe2|exact Bool.false_ne_true (e2.symm.trans qe2)|exact e3 qe3|exact Bool.false_ne_true (e3.symm.trans qe3)|exact e4 qe4|exact Bool.false_ne_true (e4.symm.trans qe4)
    rw [decide_eq_false hz] at hQ)
 have U3:=ca4 e1 e2 e3 (ca4 e4 @Jg0 @Jf6 (ca4 @Jf9 @Ja5 @Xr7 (ca4 w1 w2 hk (ca4 hk0 g1 g2 g3))))
 refine AW.w 11 U3 (ca2 Kf1 Km5) ?_
 refine AW.sr 1 fun K J0=>?_
 simp only [push_cast,simprocAttr,U3]
 try (refine CThen.by (Km5 _ _) ?_;simp only [push_cast,simprocAttr,U3])
 try (refine CThen.by (Km5 _ _) ?_;simp only [push_cast,simprocAttr,U3])
 exact AW.f U3 Tru
 )
theorem rsh_c (s:SC)(R:RWs)(i:Nat)(m:Ja1)(hn:s.nj<=1000000000000)(hp:s.np<=1000000000000):Ctr Tryz.prog 72 [.agg (scC s R),.agg (xC s i)] m (.one (.bool (decide (ShR s i)))) m:=by
 by_cases hg:(inB (s.xj i) (-1) ((s.nj:Int) - 1)=true/\inB (s.xp i) 0 ((s.np:Int) - 1)=true/\Ji1 (s.xv i 0) (-16777216) 16777216=true)
 ·obtain ⟨g1,g2,g3⟩:=hg
  by_cases hk:s.xk i=0
  ·have e:decide (ShR s i)=decide (S0R s i):=by congr 1;exact if_pos hk
   rw [e];exact Xv4 s R i m hn hp g1 g2 g3 hk
  have e:decide (ShR s i)=decide (S1R s i):=by congr 1;exact if_neg hk
  rw [e];exact Xv3 s R i m hn hp g1 g2 g3 hk
 have e:decide (ShR s i)=false:=decide_eq_false fun h=>hg (by
  unfold ShR at h
  split at h
  ·exact ⟨h.1,h.2.1,h.2.2.1⟩
  exact ⟨h.1,h.2.1,h.2.2.1⟩)
 rw [e];exact Xv2 s R i m hn hp hg
theorem Xu2 (x lo hi:Int)(m:Ja1)(g:lo<=x):Ctr Tryz.prog 103 [.one (.int .i64 x),.one (.int .i64 lo),.one (.int .i64 hi)] m (.one (.bool (inB x lo hi))) m:=by
 have U1:=ca4 @Vs8 g @decide_true (ca3 @decide_false @Bool.true_and @Bool.false_and)
 exact Ctr.f Tryz.func103 [.tmp 6] 15 U1 Tru
theorem Xu3 (x lo hi:Int)(m:Ja1)(g:¬lo<=x):Ctr Tryz.prog 103 [.one (.int .i64 x),.one (.int .i64 lo),.one (.int .i64 hi)] m (.one (.bool (inB x lo hi))) m:=by
 have U2:=ca4 @Vs8 g @decide_true (ca3 @decide_false @Bool.true_and @Bool.false_and)
 exact Ctr.f Tryz.func103 [.tmp 6] 15 U2 Tru
theorem Jp4 (x lo hi:Int)(m:Ja1):Ctr Tryz.prog 103 [.one (.int .i64 x),.one (.int .i64 lo),.one (.int .i64 hi)] m (.one (.bool (inB x lo hi))) m:=by
 by_cases g:lo<=x
 ·exact Xu2 x lo hi m g
 exact Xu3 x lo hi m g
theorem Qp1 (f:Nat->Int)(m:Ja1):Ctr Tryz.prog 174 [.agg (c3C f)] m (.one (.bool (Ji1 f (0) (1048576)))) m:=by
 refine Ctr.en Tryz.func174 [.tmp 2] 22 fun hwf Q hQ=>?_
 have gv:=Xb2 f
 refine AW.w 4 @Ja5 Tru fun K J0=>?_
 refine AW.r 4 ?_
 refine AW.w 6 @Ja5 Tru fun K J1 K J2=>?_
 refine AW.q fun K J3=>?_
 have hk0:f 0<0\/(¬f 0<0/\1048576<f 0)\/(¬f 0<0/\¬1048576<f 0):=by omega
 rcases hk0 with g0|⟨g0,f0⟩|⟨g0,f0⟩
 ·rw [show Ji1 f (0) (1048576)=false from decide_eq_false (by omega)] at hQ
  have U3:=ca2 @Ja5 g0
  refine AW.w 5 U3 Tru ?_
  refine hQ _ _ _ ?_
  first
  | (refine RetP.drop0 (Or.inr rfl) ?_ ?_ hwf
     · simp only [Je0,Jb1,Jb9,AV.tv,push_cast,simprocAttr]
     rfl)
  | (refine RetP.drop (Or.inr rfl) ?_ ?_ hwf
     · simp only [Je0,Jb1,Jb9,AV.tv,push_cast,simprocAttr]
     rfl)
  | (rw [show Ji1 f (0) (1048576)=true from decide_eq_true (by omega)] at * ;refine RetP.drop (Or.inr rfl) ?_ ?_ hwf
     · simp only [Je0,Jb1,Jb9,AV.tv,push_cast,simprocAttr]
     rfl)
 ·rw [show Ji1 f (0) (1048576)=false from decide_eq_false (by omega)] at hQ
  have U4:=ca3 @Ja5 g0 f0
  refine AW.w 5 U4 Tru ?_
  refine hQ _ _ _ ?_
  first
  | (refine RetP.drop0 (Or.inr rfl) ?_ ?_ hwf
     · simp only [Je0,Jb1,Jb9,AV.tv,push_cast,simprocAttr]
     rfl)
  | (refine RetP.drop (Or.inr rfl) ?_ ?_ hwf
     · simp only [Je0,Jb1,Jb9,AV.tv,push_cast,simprocAttr]
     rfl)
  | (rw [show Ji1 f (0) (1048576)=true from decide_eq_true (by omega)] at * ;refine RetP.drop (Or.inr rfl) ?_ ?_ hwf
     · simp only [Je0,Jb1,Jb9,AV.tv,push_cast,simprocAttr]
     rfl)
 have ok0:=True.intro
 have U5:=ca3 @Ja5 g0 f0
 refine AW.w 8 U5 Tru fun K J1=>?_
 refine AW.w 5 @Ja5 Tru fun K J2=>?_
 refine AW.q fun K J3=>?_
 have hk1:f 1<0\/(¬f 1<0/\1048576<f 1)\/(¬f 1<0/\¬1048576<f 1):=by omega
 rcases hk1 with g1|⟨g1,f1⟩|⟨g1,f1⟩
 ·rw [show Ji1 f (0) (1048576)=false from decide_eq_false (by omega)] at hQ
  have U6:=ca2 @Ja5 g1
  refine AW.w 5 U6 Tru ?_
  refine hQ _ _ _ ?_
  first
  | (refine RetP.drop0 (Or.inr rfl) ?_ ?_ hwf
     · simp only [Je0,Jb1,Jb9,AV.tv,push_cast,simprocAttr]
     rfl)
  | (refine RetP.drop (Or.inr rfl) ?_ ?_ hwf
     · simp only [Je0,Jb1,Jb9,AV.tv,push_cast,simprocAttr]
     rfl)
  | (rw [show Ji1 f (0) (1048576)=true from decide_eq_true (by omega)] at * ;refine RetP.drop (Or.inr rfl) ?_ ?_ hwf
     · simp only [Je0,Jb1,Jb9,AV.tv,push_cast,simprocAttr]
     rfl)
 ·rw [show Ji1 f (0) (1048576)=false from decide_eq_false (by omega)] at hQ
  have U7:=ca3 @Ja5 g1 f1
  refine AW.w 5 U7 Tru ?_
  refine hQ _ _ _ ?_
  first
  | (refine RetP.drop0 (Or.inr rfl) ?_ ?_ hwf
     · simp only [Je0,Jb1,Jb9,AV.tv,push_cast,simprocAttr]
     rfl)
  | (refine RetP.drop (Or.inr rfl) ?_ ?_ hwf
     · simp only [Je0,Jb1,Jb9,AV.tv,push_cast,simprocAttr]
     rfl)
  | (rw [show Ji1 f (0) (1048576)=true from decide_eq_true (by omega)] at * ;refine RetP.drop (Or.inr rfl) ?_ ?_ hwf
     · simp only [Je0,Jb1,Jb9,AV.tv,push_cast,simprocAttr]
     rfl)
 have ok1:=True.intro
 have U8:=ca3 @Ja5 g1 f1
 refine AW.w 8 U8 Tru fun K J1=>?_
 refine AW.w 5 @Ja5 Tru fun K J2=>?_
 refine AW.q fun K J3=>?_
 have hk2:f 2<0\/(¬f 2<0/\1048576<f 2)\/(¬f 2<0/\¬1048576<f 2):=by omega
 rcases hk2 with g2|⟨g2,f2⟩|⟨g2,f2⟩
 ·rw [show Ji1 f (0) (1048576)=false from decide_eq_false (by omega)] at hQ
  have U9:=ca2 @Ja5 g2
  refine AW.w 5 U9 Tru ?_
  refine hQ _ _ _ ?_
  first
  | (refine RetP.drop0 (Or.inr rfl) ?_ ?_ hwf
     · simp only [Je0,Jb1,Jb9,AV.tv,push_cast,simprocAttr]
     rfl)
  | (refine RetP.drop (Or.inr rfl) ?_ ?_ hwf
     · simp only [Je0,Jb1,Jb9,AV.tv,push_cast,simprocAttr]
     rfl)
  | (rw [show Ji1 f (0) (1048576)=true from decide_eq_true (by omega)] at * ;refine RetP.drop (Or.inr rfl) ?_ ?_ hwf
     · simp only [Je0,Jb1,Jb9,AV.tv,push_cast,simprocAttr]
     rfl)
 ·rw [show Ji1 f (0) (1048576)=false from decide_eq_false (by omega)] at hQ
  have U10:=ca3 @Ja5 g2 f2
  refine AW.w 5 U10 Tru ?_
  refine hQ _ _ _ ?_
  first
  | (refine RetP.drop0 (Or.inr rfl) ?_ ?_ hwf
     · simp only [Je0,Jb1,Jb9,AV.tv,push_cast,simprocAttr]
     rfl)
  | (refine RetP.drop (Or.inr rfl) ?_ ?_ hwf
     · simp only [Je0,Jb1,Jb9,AV.tv,push_cast,simprocAttr]
     rfl)
  | (rw [show Ji1 f (0) (1048576)=true from decide_eq_true (by omega)] at * ;refine RetP.drop (Or.inr rfl) ?_ ?_ hwf
     · simp only [Je0,Jb1,Jb9,AV.tv,push_cast,simprocAttr]
     rfl)
 have ok2:=True.intro
 have U11:=ca3 @Ja5 g2 f2
 refine AW.w 8 U11 Tru fun K J1=>?_
 refine AW.w 7 @Ja5 Tru fun K J2=>?_
 refine hQ _ _ _ ?_
 first
 | (refine RetP.drop0 (Or.inr rfl) ?_ ?_ hwf
    · simp only [Je0,Jb1,Jb9,AV.tv,push_cast,simprocAttr]
    rfl)
 | (refine RetP.drop (Or.inr rfl) ?_ ?_ hwf
    · simp only [Je0,Jb1,Jb9,AV.tv,push_cast,simprocAttr]
    rfl)
 | (rw [show Ji1 f (0) (1048576)=true from decide_eq_true (by omega)] at * ;refine RetP.drop (Or.inr rfl) ?_ ?_ hwf
    · simp only [Je0,Jb1,Jb9,AV.tv,push_cast,simprocAttr]
    rfl)
theorem Ki8 (f:Nat->Int)(m:Ja1):Ctr Tryz.prog 177 [.agg (c3C f)] m (.one (.bool (Ji1 f (-16777216) (16777216)))) m:=by
 refine Ctr.en Tryz.func177 [.tmp 2] 18 fun hwf Q hQ=>?_
 have gv:=Xb2 f
 refine AW.w 4 Tru Tru fun K J0=>?_
 refine AW.r 4 ?_
 refine AW.w 7 Tru (Jc4 f) fun K J1 K J2=>?_
 refine AW.q fun K J3=>?_
 have hk0:f 0 < -16777216\/(¬f 0 < -16777216/\16777216<f 0)\/(¬f 0 < -16777216/\¬16777216<f 0):=by omega
 rcases hk0 with g0|⟨g0,f0⟩|⟨g0,f0⟩
 ·rw [show Ji1 f (-16777216) (16777216)=false from decide_eq_false (by omega)] at hQ
  refine AW.w 5 g0 Tru ?_
  refine hQ _ _ _ ?_
  first
  | (refine RetP.drop0 (Or.inr rfl) ?_ ?_ hwf
     · simp only [Je0,Jb1,Jb9,AV.tv,push_cast,simprocAttr]
     rfl)
  | (refine RetP.drop (Or.inr rfl) ?_ ?_ hwf
     · simp only [Je0,Jb1,Jb9,AV.tv,push_cast,simprocAttr]
     rfl)
  | (rw [show Ji1 f (-16777216) (16777216)=true from decide_eq_true (by omega)] at * ;refine RetP.drop (Or.inr rfl) ?_ ?_ hwf
     · simp only [Je0,Jb1,Jb9,AV.tv,push_cast,simprocAttr]
     rfl)
 ·rw [show Ji1 f (-16777216) (16777216)=false from decide_eq_false (by omega)] at hQ
  have U12:=ca2 g0 f0
  refine AW.w 5 U12 Tru ?_
  refine hQ _ _ _ ?_
  first
  | (refine RetP.drop0 (Or.inr rfl) ?_ ?_ hwf
     · simp only [Je0,Jb1,Jb9,AV.tv,push_cast,simprocAttr]
     rfl)
  | (refine RetP.drop (Or.inr rfl) ?_ ?_ hwf
     · simp only [Je0,Jb1,Jb9,AV.tv,push_cast,simprocAttr]
     rfl)
  | (rw [show Ji1 f (-16777216) (16777216)=true from decide_eq_true (by omega)] at * ;refine RetP.drop (Or.inr rfl) ?_ ?_ hwf
     · simp only [Je0,Jb1,Jb9,AV.tv,push_cast,simprocAttr]
     rfl)
 have ok0:=True.intro
 have U13:=ca2 g0 f0
 refine AW.w 14 U13 (Jd5 f) fun K J1 K J2=>?_
 refine AW.q fun K J3=>?_
 have hk1:f 1 < -16777216\/(¬f 1 < -16777216/\16777216<f 1)\/(¬f 1 < -16777216/\¬16777216<f 1):=by omega
 rcases hk1 with g1|⟨g1,f1⟩|⟨g1,f1⟩
 ·rw [show Ji1 f (-16777216) (16777216)=false from decide_eq_false (by omega)] at hQ
  refine AW.w 5 g1 Tru ?_
  refine hQ _ _ _ ?_
  first
  | (refine RetP.drop0 (Or.inr rfl) ?_ ?_ hwf
     · simp only [Je0,Jb1,Jb9,AV.tv,push_cast,simprocAttr]
     rfl)
  | (refine RetP.drop (Or.inr rfl) ?_ ?_ hwf
     · simp only [Je0,Jb1,Jb9,AV.tv,push_cast,simprocAttr]
     rfl)
  | (rw [show Ji1 f (-16777216) (16777216)=true from decide_eq_true (by omega)] at * ;refine RetP.drop (Or.inr rfl) ?_ ?_ hwf
     · simp only [Je0,Jb1,Jb9,AV.tv,push_cast,simprocAttr]
     rfl)
 ·rw [show Ji1 f (-16777216) (16777216)=false from decide_eq_false (by omega)] at hQ
  have U14:=ca2 g1 f1
  refine AW.w 5 U14 Tru ?_
  refine hQ _ _ _ ?_
  first
  | (refine RetP.drop0 (Or.inr rfl) ?_ ?_ hwf
     · simp only [Je0,Jb1,Jb9,AV.tv,push_cast,simprocAttr]
     rfl)
  | (refine RetP.drop (Or.inr rfl) ?_ ?_ hwf
     · simp only [Je0,Jb1,Jb9,AV.tv,push_cast,simprocAttr]
     rfl)
  | (rw [show Ji1 f (-16777216) (16777216)=true from decide_eq_true (by omega)] at * ;refine RetP.drop (Or.inr rfl) ?_ ?_ hwf
     · simp only [Je0,Jb1,Jb9,AV.tv,push_cast,simprocAttr]
     rfl)
 have ok1:=True.intro
 have U15:=ca2 g1 f1
 refine AW.w 14 U15 (Jg1 f) fun K J1 K J2=>?_
 refine AW.q fun K J3=>?_
 have hk2:f 2 < -16777216\/(¬f 2 < -16777216/\16777216<f 2)\/(¬f 2 < -16777216/\¬16777216<f 2):=by omega
 rcases hk2 with g2|⟨g2,f2⟩|⟨g2,f2⟩
 ·rw [show Ji1 f (-16777216) (16777216)=false from decide_eq_false (by omega)] at hQ
  refine AW.w 5 g2 Tru ?_
  refine hQ _ _ _ ?_
  first
  | (refine RetP.drop0 (Or.inr rfl) ?_ ?_ hwf
     · simp only [Je0,Jb1,Jb9,AV.tv,push_cast,simprocAttr]
     rfl)
  | (refine RetP.drop (Or.inr rfl) ?_ ?_ hwf
     · simp only [Je0,Jb1,Jb9,AV.tv,push_cast,simprocAttr]
     rfl)
  | (rw [show Ji1 f (-16777216) (16777216)=true from decide_eq_true (by omega)] at * ;refine RetP.drop (Or.inr rfl) ?_ ?_ hwf
     · simp only [Je0,Jb1,Jb9,AV.tv,push_cast,simprocAttr]
     rfl)
 ·rw [show Ji1 f (-16777216) (16777216)=false from decide_eq_false (by omega)] at hQ
  have U16:=ca2 g2 f2
  refine AW.w 5 U16 Tru ?_
  refine hQ _ _ _ ?_
  first
  | (refine RetP.drop0 (Or.inr rfl) ?_ ?_ hwf
     · simp only [Je0,Jb1,Jb9,AV.tv,push_cast,simprocAttr]
     rfl)
  | (refine RetP.drop (Or.inr rfl) ?_ ?_ hwf
     · simp only [Je0,Jb1,Jb9,AV.tv,push_cast,simprocAttr]
     rfl)
  | (rw [show Ji1 f (-16777216) (16777216)=true from decide_eq_true (by omega)] at * ;refine RetP.drop (Or.inr rfl) ?_ ?_ hwf
     · simp only [Je0,Jb1,Jb9,AV.tv,push_cast,simprocAttr]
     rfl)
 have ok2:=True.intro
 have U17:=ca2 g2 f2
 refine AW.w 15 U17 Tru fun K J1 K J2=>?_
 refine hQ _ _ _ ?_
 first
 | (refine RetP.drop0 (Or.inr rfl) ?_ ?_ hwf
    · simp only [Je0,Jb1,Jb9,AV.tv,push_cast,simprocAttr]
    rfl)
 | (refine RetP.drop (Or.inr rfl) ?_ ?_ hwf
    · simp only [Je0,Jb1,Jb9,AV.tv,push_cast,simprocAttr]
    rfl)
 | (rw [show Ji1 f (-16777216) (16777216)=true from decide_eq_true (by omega)] at * ;refine RetP.drop (Or.inr rfl) ?_ ?_ hwf
    · simp only [Je0,Jb1,Jb9,AV.tv,push_cast,simprocAttr]
    rfl)
theorem chd_c (s:SC)(m:Ja1):Ctr Tryz.prog 91 [.agg (hdC s)] m (.one (.bool (decide (HdR s)))) m:=by
 refine Ctr.en Tryz.func91 [.tmp 2] 41 fun hwf Q hQ=>?_
 rcases Xb1 (inB s.w 1 64=true) (inB s.h 1 64=true) (inB s.sm 1 16=true) (inB s.dp 1 6=true) (inB s.fr 1 32=true) (0<=s.sh) (s.sh<=65536) (Ji1 s.sk 0 1048576=true) with ⟨g1,g2,g3,g4,g5,g6,g7,g8⟩|⟨g1,g2,g3,g4,g5,g6,g7,g8⟩|⟨g1,g2,g3,g4,g5,g6,g7,g8⟩|⟨g1,g2,g3,g4,g5,g6,g7,g8⟩|⟨g1,g2,g3,g4,g5,g6,g7,g8⟩|⟨g1,g2,g3,g4,g5,g6,g7,g8⟩|⟨g1,g2,g3,g4,g5,g6,g7,g8⟩|⟨g1,g2,g3,g4,g5,g6,g7,g8⟩|⟨g1,g2,g3,g4,g5,g6,g7,g8⟩ <;>
 (
 try simp only [Bool.not_eq_true,Bool.not_eq_false,Classical.not_not] at g1 g2 g3 g4 g5 g6 g7 g8
 first
 | (have hz:(HdR s):=⟨g1,g2,g3,g4,g5,g6,g7,g8⟩
    rw [decide_eq_true hz] at hQ)
 | (have hz:¬(HdR s):=fun ⟨q1,q2,q3,q4,q5,q6,q7,q8⟩=>by
      first|exact g1 q1|(rw [g1] at q1;exact absurd q1 (by decide))|exact g2 q2|(rw [g2] at q2;exact absurd q2 (by decide))|exact g3 q3|(rw [g3] at q3;exact absurd q3 (by decide))|exact g4 q4|(rw [g4] at q4;exact absurd q4 (by decide))|exact g5 q5|(rw [g5] at q5;exact absurd q5 (by decide))|exact g6 q6|(rw [g6] at q6;exact absurd q6 (by decide))|exact g7 q7|(rw [g7] at q7;exact absurd q7 (by decide))|exact g8 q8|(rw [g8] at q8;exact absurd q8 (by decide))
    rw [decide_eq_false hz] at hQ)
 refine AW.sr 2 fun K J0=>?_
 have U18:=ca4 g1 g2 g3 (ca4 g4 g5 g6 (ca2 g7 g8))
 simp only [push_cast,simprocAttr,hdC,c3C,U18]
 refine CThen.by (Jp4 _ _ _ _) ?_
 simp only [push_cast,simprocAttr,hdC,c3C,U18]
 iterate 2
  try (refine CThen.by (Jp4 _ _ _ _) ?_;simp only [push_cast,simprocAttr,hdC,c3C,U18])
  try (refine CThen.by (Jp4 _ _ _ _) ?_;simp only [push_cast,simprocAttr,hdC,c3C,U18])
 try (refine CThen.by (Qp1 _ _) ?_;simp only [push_cast,simprocAttr,hdC,c3C,U18])
 apply J0
 have U19:=ca3 @Jf6 @Ja5 U18
 exact AW.f U19 Tru
 )
theorem cpa_c (s:SC)(i:Nat)(m:Ja1):Ctr Tryz.prog 93 [.agg (pC s i)] m (.one (.bool (decide (PaR s i)))) m:=by
 refine Ctr.en Tryz.func93 [.tmp 2] 21 fun hwf Q hQ=>?_
 rcases Kh1 (inB (s.pk i) 0 3=true) (Ji1 (s.pc i) 0 1048576=true) (0<=s.pr i) (s.pr i<=65536) with ⟨g1,g2,g3,g4⟩|⟨g1,g2,g3,g4⟩|⟨g1,g2,g3,g4⟩|⟨g1,g2,g3,g4⟩|⟨g1,g2,g3,g4⟩ <;>
 (
 try simp only [Bool.not_eq_true,Bool.not_eq_false,Classical.not_not] at g1 g2 g3 g4
 first
 | (have hz:(PaR s i):=⟨g1,g2,g3,g4⟩
    rw [decide_eq_true hz] at hQ)
 | (have hz:¬(PaR s i):=fun ⟨q1,q2,q3,q4⟩=>by
      first|exact g1 q1|(rw [g1] at q1;exact absurd q1 (by decide))|exact g2 q2|(rw [g2] at q2;exact absurd q2 (by decide))|exact g3 q3|(rw [g3] at q3;exact absurd q3 (by decide))|exact g4 q4|(rw [g4] at q4;exact absurd q4 (by decide))
    rw [decide_eq_false hz] at hQ)
 refine AW.sr 2 fun K J0=>?_
 have U20:=ca4 g1 g2 g3 g4
 simp only [push_cast,simprocAttr,pC,c3C,U20]
 refine CThen.by (Jp4 _ _ _ _) ?_
 simp only [push_cast,simprocAttr,pC,c3C,U20]
 try (refine CThen.by (Qp1 (s.pc i) _) ?_;simp only [push_cast,simprocAttr,pC,c3C,U20])
 apply J0
 have U21:=ca3 @pC_e @Ja5 U20
 exact AW.f U21 Tru
 )
theorem on_c (s:SC)(R:RWs)(n:Int)(m:Ja1)(hn:s.nt<=1000000000000):Ctr Tryz.prog 176 [.agg (scC s R),.one (.int .i64 n)] m (.one (.bool (inB n (-1) ((s.nt:Int) - 1)))) m:=by
 have w:=(show IntKind.i64.wrap ((s.nt:Int) - 1)=(s.nt:Int) - 1 from wi (by omega))
 have U22:=ca4 @Jg0 @Jf6 @Jf9 (ca2 @Ja5 w)
 exact Ctr.f Tryz.func176 [.tmp 4] 11 U22 Jp4
theorem cle_c (s:SC)(R:RWs)(m:Ja1)(hn:s.nt<=1000000000000):Ctr Tryz.prog 100 [.agg (scC s R)] m (.one (.bool (decide (LeR s)))) m:=by
 refine Ctr.en Tryz.func100 [.tmp 2] 33 fun hwf Q hQ=>?_
 have w:=(show IntKind.i64.wrap ((s.nt:Int) - 1)=(s.nt:Int) - 1 from wi (by omega))
 rcases Kh1 (inB s.ey 0 ((s.nt:Int) - 1)=true) (inB s.lk 0 ((s.nt:Int) - 1)=true) (0<s.wd) (s.wd<=524288) with ⟨g1,g2,g3,g4⟩|⟨g1,g2,g3,g4⟩|⟨g1,g2,g3,g4⟩|⟨g1,g2,g3,g4⟩|⟨g1,g2,g3,g4⟩ <;>
 (
 try simp only [Bool.not_eq_true,Bool.not_eq_false,Classical.not_not] at g1 g2 g3 g4
 first
 | (have hz:(LeR s):=⟨g1,g2,g3,g4⟩
    rw [decide_eq_true hz] at hQ)
 | (have hz:¬(LeR s):=fun ⟨q1,q2,q3,q4⟩=>by
      first|exact g1 q1|(rw [g1] at q1;exact absurd q1 (by decide))|exact g2 q2|(rw [g2] at q2;exact absurd q2 (by decide))|exact g3 q3|(rw [g3] at q3;exact absurd q3 (by decide))|exact g4 q4|(rw [g4] at q4;exact absurd q4 (by decide))
    rw [decide_eq_false hz] at hQ)
 refine AW.sr 2 fun K J0=>?_
 have U23:=ca4 g1 g2 g3 (ca2 g4 w)
 simp only [push_cast,simprocAttr,scC,hdC,tlC,c3C,U23]
 refine CThen.by (Jp4 _ _ _ _) ?_
 simp only [push_cast,simprocAttr,scC,hdC,tlC,c3C,U23]
 try (refine CThen.by (Jp4 _ _ _ _) ?_;simp only [push_cast,simprocAttr,scC,hdC,tlC,c3C,U23])
 apply J0
 have U24:=ca4 @Jg0 @Jf6 @Jf9 (ca2 @Ja5 U23)
 exact AW.f U24 Tru
 )
theorem cjo_c (s:SC)(R:RWs)(i:Nat)(m:Ja1)(hn:s.nt<=1000000000000)(hj:∃ k e,m[R.j]?=some ⟨k,148,R.vj,e,Jb2 s.nj (jC s)⟩)(hi:i<s.nj)(hnj:s.nj<=1000000000000):Ctr Tryz.prog 96 [.agg (scC s R),.one (.int .i64 (i:Int))] m (.one (.bool (decide (JoR s i)))) m:=by
 refine Ctr.en Tryz.func96 [.tmp 4] 38 fun hwf Q hQ=>?_
 obtain ⟨kj,ej,hj⟩:=hj
 have lj:=Ja7 hj
 have w:=(show IntKind.i64.wrap ((s.nt:Int) - 1)=(s.nt:Int) - 1 from wi (by omega))
 have w2:=(show IntKind.i64.wrap ((i:Int) - 1)=(i:Int) - 1 from wi (by omega))
 have jl:(Jb2 s.nj (jC s)).length=s.nj*4:=Ja6 (w:=4) (F:=jC s) (fun _=>rfl) _
 have ja:((Jb2 s.nj (jC s)).drop (i*4)).take 4=jC s i:=Jb7 (w:=4) (F:=jC s) (fun _=>rfl) hi
 have c1:(0:Int)<=(i:Int):=by omega
 have c2:(i:Int)<(s.nj:Int):=by omega
 have c3:i*4+4<=s.nj*4:=by omega
 have ej0:=Ve9 s i
 have sc0:scC s R=scC s R:=rfl
 rcases Qp2 (inB (s.jp i) (-1) ((i:Int) - 1)=true) (inB (s.jm i) (-1) ((s.nt:Int) - 1)=true) (inB (s.jt i) (-1) ((s.nt:Int) - 1)=true) (0<s.js i) (s.js i<=4194304) with ⟨g1,g2,g3,g4,g5⟩|⟨g1,g2,g3,g4,g5⟩|⟨g1,g2,g3,g4,g5⟩|⟨g1,g2,g3,g4,g5⟩|⟨g1,g2,g3,g4,g5⟩|⟨g1,g2,g3,g4,g5⟩ <;>
 (
 try simp only [Bool.not_eq_true,Bool.not_eq_false,Classical.not_not] at g1 g2 g3 g4 g5
 first
 | (have hz:(JoR s i):=⟨g1,g2,g3,g4,g5⟩
    rw [decide_eq_true hz] at hQ)
 | (have hz:¬(JoR s i):=fun ⟨q1,q2,q3,q4,q5⟩=>by
      first|exact g1 q1|(rw [g1] at q1;exact absurd q1 (by decide))|exact g2 q2|(rw [g2] at q2;exact absurd q2 (by decide))|exact g3 q3|(rw [g3] at q3;exact absurd q3 (by decide))|exact g4 q4|(rw [g4] at q4;exact absurd q4 (by decide))|exact g5 q5|(rw [g5] at q5;exact absurd q5 (by decide))
    rw [decide_eq_false hz] at hQ)
 refine AW.sr 3 fun K J0=>?_
 have U25:=ca4 g1 g2 g3 (ca4 g4 g5 w (ca4 w2 hj (Ja4 hj) (ca4 jl ja c1 (ca3 c2 c3 ej0))))
 simp only [push_cast,simprocAttr,scC,hdC,tlC,c3C,U25]
 refine CThen.by (Jp4 _ _ _ _) ?_
 simp only [push_cast,simprocAttr,scC,hdC,tlC,c3C,U25]
 try (refine CThen.by (on_c s R _ _ hn) ?_;simp only [push_cast,simprocAttr,scC,hdC,tlC,c3C,U25])
 try (refine CThen.by (on_c s R _ _ hn) ?_;simp only [push_cast,simprocAttr,scC,hdC,tlC,c3C,U25])
 apply J0
 have U26:=ca4 @Jg0 @Jf6 @Jf9 (ca2 @Ja5 U25)
 exact AW.f U26 Tru
 )
theorem Yb0 (s:SC)(R:RWs)(i:Nat)(m:Ja1)(hn:s.nj<=1000000000000)(hp:s.np<=1000000000000)(hb:¬(inB (s.xj i) (-1) ((s.nj:Int) - 1)=true/\inB (s.xp i) 0 ((s.np:Int) - 1)=true/\inB (s.xk i) 0 1=true)):Ctr Tryz.prog 98 [.agg (scC s R),.agg (xC s i)] m (.one (.bool false)) m:=by
 refine Ctr.en Tryz.func98 [.tmp 4] 77 fun hwf Q hQ=>?_
 have w1:=(show IntKind.i64.wrap ((s.nj:Int) - 1)=(s.nj:Int) - 1 from wi (by omega))
 have w2:=(show IntKind.i64.wrap ((s.np:Int) - 1)=(s.np:Int) - 1 from wi (by omega))
 rcases Vh6 (inB (s.xj i) (-1) ((s.nj:Int) - 1)=true) (inB (s.xp i) 0 ((s.np:Int) - 1)=true) (inB (s.xk i) 0 1=true) with ⟨g1,g2,g3⟩|⟨g1,g2,g3⟩|⟨g1,g2,g3⟩|⟨g1,g2,g3⟩
 · exact absurd ⟨g1,g2,g3⟩ hb
 all_goals (
 try simp only [Bool.not_eq_true,Bool.not_eq_false,Classical.not_not] at g1 g2 g3
 have U27:=ca4 g1 g2 g3 (ca4 @Jg0 @Jf6 @Jf9 (ca4 @Ja5 @Xr7 w1 w2))
 refine AW.c 1 U27 Tru ?_
 refine AW.q fun K J0=>?_
 refine AW.sr 1 fun K J1=>?_
 simp only [push_cast,simprocAttr,U27]
 refine CThen.by (Jp4 _ _ _ _) ?_
 simp only [push_cast,simprocAttr,U27]
 try (refine CThen.by (Jp4 _ _ _ _) ?_;simp only [push_cast,simprocAttr,U27])
 try (refine CThen.by (Jp4 _ _ _ _) ?_;simp only [push_cast,simprocAttr,U27])
 exact AW.f U27 Tru
 )
theorem Yb2 (s:SC)(R:RWs)(i:Nat)(m:Ja1)(hn:s.nj<=1000000000000)(hp:s.np<=1000000000000)(g1:inB (s.xj i) (-1) ((s.nj:Int) - 1)=true)(g2:inB (s.xp i) 0 ((s.np:Int) - 1)=true)(g3:inB (s.xk i) 0 1=true)(hk:s.xk i=0):Ctr Tryz.prog 98 [.agg (scC s R),.agg (xC s i)] m (.one (.bool (decide (S0R s i)))) m:=by
 refine Ctr.en Tryz.func98 [.tmp 4] 77 fun hwf Q hQ=>?_
 have w1:=(show IntKind.i64.wrap ((s.nj:Int) - 1)=(s.nj:Int) - 1 from wi (by omega))
 have w2:=(show IntKind.i64.wrap ((s.np:Int) - 1)=(s.np:Int) - 1 from wi (by omega))
 have hk0:=hk
 rcases Qp2 (Ji1 (s.xv i 0) (-16777216) 16777216=true) ((s.xv i 1 0 ==0&&(s.xv i 1 1 ==0&&s.xv i 1 2 ==0))=true) ((s.xv i 2 0 ==0&&(s.xv i 2 1 ==0&&s.xv i 2 2 ==0))=true) (0<s.xr i) (s.xr i<=4194304) with ⟨e1,e2,e3,e4,e5⟩|⟨e1,e2,e3,e4,e5⟩|⟨e1,e2,e3,e4,e5⟩|⟨e1,e2,e3,e4,e5⟩|⟨e1,e2,e3,e4,e5⟩|⟨e1,e2,e3,e4,e5⟩ <;>
 (
 try simp only [Bool.not_eq_true,Bool.not_eq_false,Classical.not_not] at e1 e2 e3 e4 e5
 first
 | (have hz:(S0R s i):=⟨g1,g2,e1,e2,e3,e4,e5⟩
    rw [decide_eq_true hz] at hQ)
 | (have hz:¬(S0R s i):=fun ⟨qg1,qg2,qe1,qe2,qe3,qe4,qe5⟩=>by
      first|exact e1 qe1|exact Bool.false_ne_true (e1.symm.trans qe1)|exact e2 qe2|exact Bool.false_ne_true (e2.symm.trans qe2)|exact e3 qe3|exact Bool.false_ne_true (e3.symm.trans qe3)|exact e4 qe4|exact Bool.false_ne_true (e4.symm.trans qe4)|exact e5 qe5|exact Bool.false_ne_true (e5.symm.trans qe5)
    rw [decide_eq_false hz] at hQ)
 have U28:=ca4 e1 e2 e3 (ca4 e4 e5 @Jg0 (ca4 @Jf6 @Jf9 @Ja5 (ca4 @Xr7 w1 w2 (ca4 g1 g2 g3 (ca2 hk hk0)))))
 exact AW.f U28 (ca2 Jp4 Ki8)
 )
theorem Yb1 (s:SC)(R:RWs)(i:Nat)(m:Ja1)(hn:s.nj<=1000000000000)(hp:s.np<=1000000000000)(g1:inB (s.xj i) (-1) ((s.nj:Int) - 1)=true)(g2:inB (s.xp i) 0 ((s.np:Int) - 1)=true)(g3:inB (s.xk i) 0 1=true)(hk:(s.xk i ==1)=true):Ctr Tryz.prog 98 [.agg (scC s R),.agg (xC s i)] m (.one (.bool (decide (S1R s i)))) m:=by
 refine Ctr.en Tryz.func98 [.tmp 4] 77 fun hwf Q hQ=>?_
 have w1:=(show IntKind.i64.wrap ((s.nj:Int) - 1)=(s.nj:Int) - 1 from wi (by omega))
 have w2:=(show IntKind.i64.wrap ((s.np:Int) - 1)=(s.np:Int) - 1 from wi (by omega))
 have hk0:(s.xk i ==0)=false:=by have:=eq_of_beq hk;rw [this];decide
 rcases Kh1 (Ji1 (s.xv i 0) (-16777216) 16777216=true) (Ji1 (s.xv i 1) (-16777216) 16777216=true) (Ji1 (s.xv i 2) (-16777216) 16777216=true) ((s.xr i ==0)=true) with ⟨e1,e2,e3,e4⟩|⟨e1,e2,e3,e4⟩|⟨e1,e2,e3,e4⟩|⟨e1,e2,e3,e4⟩|⟨e1,e2,e3,e4⟩ <;>
 (
 try simp only [Bool.not_eq_true,Bool.not_eq_false,Classical.not_not] at e1 e2 e3 e4
 first
 | (have hz:(S1R s i):=⟨g1,g2,e1,hk,e2,e3,e4⟩
    rw [decide_eq_true hz] at hQ)
 | (have hz:¬(S1R s i):=fun ⟨qg1,qg2,qe1,qhk,qe2,qe3,qe4⟩=>by
      first|exact e1 qe1|exact Bool.false_ne_true (e1.symm.trans qe1)|exact e2 qe2|exact Bool.false_ne_true (e2.symm.trans qe2)|exact e3 qe3|exact Bool.false_ne_true (e3.symm.trans qe3)|exact e4 qe4|exact Bool.false_ne_true (e4.symm.trans qe4)
    rw [decide_eq_false hz] at hQ)
 have U29:=ca4 e1 e2 e3 (ca4 e4 @Jg0 @Jf6 (ca4 @Jf9 @Ja5 @Xr7 (ca4 w1 w2 g1 (ca4 g2 g3 hk hk0))))
 refine AW.w 11 U29 Jp4 ?_
 refine AW.sr 1 fun K J0=>?_
 simp only [push_cast,simprocAttr,U29]
 refine CThen.by (Ki8 _ _) ?_
 simp only [push_cast,simprocAttr,U29]
 try (refine CThen.by (Ki8 _ _) ?_;simp only [push_cast,simprocAttr,U29])
 try (refine CThen.by (Ki8 _ _) ?_;simp only [push_cast,simprocAttr,U29])
 exact AW.f U29 Tru
 )
theorem csh_c (s:SC)(R:RWs)(i:Nat)(m:Ja1)(hn:s.nj<=1000000000000)(hp:s.np<=1000000000000):Ctr Tryz.prog 98 [.agg (scC s R),.agg (xC s i)] m (.one (.bool (decide (ShR s i)))) m:=by
 by_cases hg:(inB (s.xj i) (-1) ((s.nj:Int) - 1)=true/\inB (s.xp i) 0 ((s.np:Int) - 1)=true/\inB (s.xk i) 0 1=true)
 ·obtain ⟨g1,g2,g3⟩:=hg
  by_cases hk:s.xk i=0
  ·have e:decide (ShR s i)=decide (S0R s i):=by congr 1;exact if_pos hk
   rw [e];exact Yb2 s R i m hn hp g1 g2 g3 hk
  have e:decide (ShR s i)=decide (S1R s i):=by congr 1;exact if_neg hk
  have hk1:(s.xk i ==1)=true:=by have:=inB_iff.1 g3;simp;omega
  rw [e];exact Yb1 s R i m hn hp g1 g2 g3 hk1
 have e:decide (ShR s i)=false:=decide_eq_false fun h=>hg (by
  unfold ShR at h
  split at h
  ·rename_i h0;exact ⟨h.1,h.2.1,inB_iff.2 (by omega)⟩
  exact ⟨h.1,h.2.1,inB_iff.2 (by have:=eq_of_beq h.2.2.2.1;omega)⟩)
 rw [e];exact Yb0 s R i m hn hp hg
structure ScR (pt tt kt jt xt:Nat)(m:Ja1)(s:SC)(R:RWs):Prop where
 hp:∃ k e,m[R.p]?=some ⟨k,pt,R.vp,e,Jb2 s.np (pC s)⟩
 ht:∃ k e,m[R.t]?=some ⟨k,tt,R.vt,e,Jb2 s.nt (tC s R)⟩
 hk:∀ i,i<s.nt->∃ k e,m[R.k i]?=some ⟨k,kt,R.vk i,e,Jb2 (s.kn i) (kC s i)⟩
 hj:∃ k e,m[R.j]?=some ⟨k,jt,R.vj,e,Jb2 s.nj (jC s)⟩
 hx:∃ k e,m[R.x]?=some ⟨k,xt,R.vx,e,Jb2 s.nx (xC s)⟩
 np:s.np<=1000000000000
 nt:s.nt<=1000000000000
 nj:s.nj<=1000000000000
 nx:s.nx<=1000000000000
 nk:∀ i,i<s.nt->s.kn i<=1000000000000
theorem ScR.app {pt tt kt jt xt:Nat}{m:Ja1}{s:SC}{R:RWs}(h:ScR pt tt kt jt xt m s R)(L:Ja1):ScR pt tt kt jt xt (m++L) s R where
 hp:=by obtain ⟨k,e,h1⟩:=h.hp;exact ⟨k,e,Ja4 h1 L⟩
 ht:=by obtain ⟨k,e,h1⟩:=h.ht;exact ⟨k,e,Ja4 h1 L⟩
 hk:=fun i hi=>by obtain ⟨k,e,h1⟩:=h.hk i hi;exact ⟨k,e,Ja4 h1 L⟩
 hj:=by obtain ⟨k,e,h1⟩:=h.hj;exact ⟨k,e,Ja4 h1 L⟩
 hx:=by obtain ⟨k,e,h1⟩:=h.hx;exact ⟨k,e,Ja4 h1 L⟩
 np:=h.np
 nt:=h.nt
 nj:=h.nj
 nx:=h.nx
 nk:=h.nk
theorem ScR.bel {pt tt kt jt xt:Nat}{m:Ja1}{s:SC}{R:RWs}(h:ScR pt tt kt jt xt m s R)(L:Nat)(hL:m.length<=L):(scC s R).all (CV.below L)=true:=by
 obtain ⟨_,_,h1⟩:=h.hp
 obtain ⟨_,_,h2⟩:=h.ht
 obtain ⟨_,_,h3⟩:=h.hj
 obtain ⟨_,_,h4⟩:=h.hx
 have:=Ja7 h1
 have:=Ja7 h2
 have:=Ja7 h3
 have:=Ja7 h4
 simp [scC,hdC,tlC,c3C,CV.below]
 omega
def glB (s:SC)(i:Nat):Bool:=decide (0<=s.xp i)&&(decide (s.xp i<(s.np:Int))&&(s.pk (s.xp i).toNat ==3))
theorem Xv9 (s:SC)(R:RWs)(m:Ja1)(hR:ScR 138 143 285 146 150 m s R):Ctr Tryz.prog 74 [.agg (scC s R)] m (.one (.sl m.length 0 0 (Jm3 (glB s) s.nx).length)) (m++[⟨.grow,3,0,1,iL (Jm3 (glB s) s.nx)⟩]):=by
 refine Ctr.en Tryz.func74 [.tmp 2] 42 fun hwf Q hQ=>?_
 obtain ⟨kp,ep,hp⟩:=hR.hp
 have lp:=Ja7 hp
 obtain ⟨kx,ex,hx⟩:=hR.hx
 have lx:=Ja7 hx
 have np:=hR.np
 have nx:=hR.nx
 have pl:(Jb2 s.np (pC s)).length=s.np*5:=Ja6 (w:=5) (F:=pC s) (fun _=>rfl) _
 have xl:(Jb2 s.nx (xC s)).length=s.nx*13:=Ja6 (w:=13) (F:=xC s) (fun _=>rfl) _
 have hlt0:∀ k,¬m.length+k<m.length:=fun k=>by omega
 have ill:=fun l=>Ks6 l
 have w1:=(show IntKind.i64.wrap ((s.np:Int) - 1)=(s.np:Int) - 1 from wi (by omega))
 have U1:=ca4 hp (Ja4 hp) hx (ca4 (Ja4 hx) pl xl (ca4 w1 ill @Vf2 (ca4 @Vf3 @Jg0 @Jf6 (ca2 @Jf9 @Ja5))))
 refine AW.w 5 U1 Tru fun K J0=>?_
 refine AW.nilTm 3 1 3 rfl ?_
 try simp only [push_cast,simprocAttr,U1]
 refine AW.loopK [1] (fun i=>i<=s.nx) (fun i=>[(3,.one (.sl (m.length+1) (Jm3 (glB s) i).length 0 (Jm3 (glB s) i).length)),(4,.one (.int .i64 (i:Int)))]) (fun i=>[(m.length+1,⟨.grow,3,(Jm3 (glB s) i).length,1,iL (Jm3 (glB s) i)⟩)]) (fun i=>s.nx - i) 0 (by omega) ?_ ?_ fun i hi2=>?_
 · first|rfl|(simp only [KS,simprocAttr,Jm3,Int.natCast_zero,List.length_nil]<;>repeat' (first|rfl|apply And.intro))
 · simp only [Ja2,push_cast,simprocAttr,Jm3]<;>rfl
 try simp only [Ja9,Ja2,push_cast,simprocAttr,U1]
 refine AW.w 2 U1 Tru fun K J1=>?_
 refine AW.cond rfl (fun h10=>?_) (fun h10=>?_)
 ·have hlt:i<s.nx:=by have:=of_decide_eq_true h10;omega
  have c1:(0:Int)<=(i:Int):=by omega
  have c2:(i:Int)<(s.nx:Int):=by omega
  have c3:i*13+13<=s.nx*13:=by omega
  have ga:=Jb7 (w:=13) (F:=xC s) (fun _=>rfl) hlt
  have gx1:(Jb2 s.nx (xC s))[i*13+1]?=some (.int .i64 (s.xp i)):=Jg9 (w:=13) (F:=xC s) (fun _=>rfl) hlt (a:=1) (by omega)
  have gx:=Ke2 s i
  have hol:=Kv7 (glB s) i
  have q1:(Jm3 (glB s) i).length<=140737488355327:=by omega
  have q2:((Jm3 (glB s) i).length+1)*8<=140737488355328:=by omega
  refine AW.w 4 Tru Tru fun K J1=>?_
  have U2:=ca4 U1 c1 c2 (ca4 c3 ga gx1 (ca4 gx q1 q2 hlt))
  refine AW.c 1 U2 Tru ?_
  refine AW.q fun K J2=>?_
  have hk:¬0<=s.xp i\/(0<=s.xp i/\¬s.xp i<(s.np:Int))\/(0<=s.xp i/\s.xp i<(s.np:Int)/\(s.pk (s.xp i).toNat ==3)=true)\/(0<=s.xp i/\s.xp i<(s.np:Int)/\(s.pk (s.xp i).toNat ==3)=false):=by
    cases (s.pk (s.xp i).toNat ==3)<;>simp<;>omega
  rcases hk with e1|⟨e1,e2⟩|⟨e1,e2,e3⟩|⟨e1,e2,e3⟩
  ·have hg:glB s i=false:=by simp only [glB,decide_eq_false e1,Bool.false_and]
   have hu:Jm3 (glB s) (i+1)=Jm3 (glB s) i:=if_neg (by rw [hg];decide)
   have hu2:=True.intro
   have U3:=ca2 U2 e1
   refine AW.w 6 U3 Tru ?_
   have hwi:IntKind.i64.wrap ((i:Int)+1)=(i:Int)+1:=wi (by omega)
   refine ⟨i+1,by omega,by omega,?_⟩
   try simp only [Ja9,Ja2,push_cast,simprocAttr,U3,hwi,hu,hu2]
   first
    | exact Weak.same (by simp only [KS,simprocAttr,hwi,hu,hu2]) (by first|rfl|simp only [KS,simprocAttr,hwi,hu,hu2])
    | exact Weak.to (extra:=[_]) (by simp only [KS,simprocAttr,hwi,hu,hu2]) (by first|rfl|(simp only [List.append_assoc,List.cons_append,List.nil_append];rfl)) (by first|rfl|(simp [AV.below,CV.below];done)|(simp [AV.below,CV.below];omega)) (by first|exact hwf|exact MWf.app (hwf.grow (by simp)) (Ja0 (by exact hR.bel _ (by simp)) (Ja0 (Jk5 _ _) Jb3)))
  ·have hg:glB s i=false:=by simp only [glB,decide_eq_false e2,Bool.false_and,Bool.and_false]
   have hu:Jm3 (glB s) (i+1)=Jm3 (glB s) i:=if_neg (by rw [hg];decide)
   have hu2:=True.intro
   have U4:=ca3 U2 e1 e2
   refine AW.w 6 U4 Tru ?_
   have hwi:IntKind.i64.wrap ((i:Int)+1)=(i:Int)+1:=wi (by omega)
   refine ⟨i+1,by omega,by omega,?_⟩
   try simp only [Ja9,Ja2,push_cast,simprocAttr,U4,hwi,hu,hu2]
   first
    | exact Weak.same (by simp only [KS,simprocAttr,hwi,hu,hu2]) (by first|rfl|simp only [KS,simprocAttr,hwi,hu,hu2])
    | exact Weak.to (extra:=[_]) (by simp only [KS,simprocAttr,hwi,hu,hu2]) (by first|rfl|(simp only [List.append_assoc,List.cons_append,List.nil_append];rfl)) (by first|rfl|(simp [AV.below,CV.below];done)|(simp [AV.below,CV.below];omega)) (by first|exact hwf|exact MWf.app (hwf.grow (by simp)) (Ja0 (by exact hR.bel _ (by simp)) (Ja0 (Jk5 _ _) Jb3)))
  ·have hg:glB s i=true:=by simp only [glB,decide_eq_true e1,decide_eq_true e2,e3,Bool.and_self]
   have hu:Jm3 (glB s) (i+1)=Jm3 (glB s) i++[(i:Int)]:=if_pos hg
   have hu2:(Jm3 (glB s) i++[(i:Int)]).length=(Jm3 (glB s) i).length+1:=by simp
   obtain ⟨j,hj⟩:∃ j,j=(s.xp i).toNat:=⟨_,rfl⟩
   have hxj:s.xp i=(j:Int):=by omega
   have hjn:j<s.np:=by omega
   have d1:(0:Int)<=(j:Int):=by omega
   have d2:(j:Int)<(s.np:Int):=by omega
   have d3:j*5+5<=s.np*5:=by omega
   have d4:(Jb2 s.np (pC s))[j*5]?=some (.int .i64 (s.pk j)):=Jg9 (w:=5) (F:=pC s) (fun _=>rfl) hjn (a:=0) (by omega)
   rw [<-hj] at e3
   have U5:=ca4 U2 hxj d1 (ca4 d2 d3 d4 (ca2 e3 hjn))
   refine AW.w 6 U5 Tru ?_
   have hwi:IntKind.i64.wrap ((i:Int)+1)=(i:Int)+1:=wi (by omega)
   refine ⟨i+1,by omega,by omega,?_⟩
   try simp only [Ja9,Ja2,push_cast,simprocAttr,U5,hwi,hu,hu2]
   first
    | exact Weak.same (by simp only [KS,simprocAttr,hwi,hu,hu2]) (by first|rfl|simp only [KS,simprocAttr,hwi,hu,hu2])
    | exact Weak.to (extra:=[_]) (by simp only [KS,simprocAttr,hwi,hu,hu2]) (by first|rfl|(simp only [List.append_assoc,List.cons_append,List.nil_append];rfl)) (by first|rfl|(simp [AV.below,CV.below];done)|(simp [AV.below,CV.below];omega)) (by first|exact hwf|exact MWf.app (hwf.grow (by simp)) (Ja0 (by exact hR.bel _ (by simp)) (Ja0 (Jk5 _ _) Jb3)))
  have hg:glB s i=false:=by simp only [glB,e3,Bool.and_false]
  have hu:Jm3 (glB s) (i+1)=Jm3 (glB s) i:=if_neg (by rw [hg];decide)
  have hu2:=True.intro
  obtain ⟨j,hj⟩:∃ j,j=(s.xp i).toNat:=⟨_,rfl⟩
  have hxj:s.xp i=(j:Int):=by omega
  have hjn:j<s.np:=by omega
  have d1:(0:Int)<=(j:Int):=by omega
  have d2:(j:Int)<(s.np:Int):=by omega
  have d3:j*5+5<=s.np*5:=by omega
  have d4:(Jb2 s.np (pC s))[j*5]?=some (.int .i64 (s.pk j)):=Jg9 (w:=5) (F:=pC s) (fun _=>rfl) hjn (a:=0) (by omega)
  rw [<-hj] at e3
  have U6:=ca4 U2 hxj d1 (ca4 d2 d3 d4 (ca2 e3 hjn))
  refine AW.w 6 U6 Tru ?_
  have hwi:IntKind.i64.wrap ((i:Int)+1)=(i:Int)+1:=wi (by omega)
  refine ⟨i+1,by omega,by omega,?_⟩
  try simp only [Ja9,Ja2,push_cast,simprocAttr,U6,hwi,hu,hu2]
  first
   | exact Weak.same (by simp only [KS,simprocAttr,hwi,hu,hu2]) (by first|rfl|simp only [KS,simprocAttr,hwi,hu,hu2])
   | exact Weak.to (extra:=[_]) (by simp only [KS,simprocAttr,hwi,hu,hu2]) (by first|rfl|(simp only [List.append_assoc,List.cons_append,List.nil_append];rfl)) (by first|rfl|(simp [AV.below,CV.below];done)|(simp [AV.below,CV.below];omega)) (by first|exact hwf|exact MWf.app (hwf.grow (by simp)) (Ja0 (by exact hR.bel _ (by simp)) (Ja0 (Jk5 _ _) Jb3)))
 have hin:i=s.nx:=by have:=of_decide_eq_false h10;omega
 rw [hin]
 refine AW.w 4 U1 Tru ?_
 refine hQ _ _ _ ?_
 refine RetP.pick [(m.length+1,(Jm3 (glB s) s.nx).length)] (by first|exact Or.inr rfl|exact Or.inl rfl) ?_ ?_ ?_ hwf ?_
 · simp only [Je0,Jb1,Jb9,AV.tv,push_cast,simprocAttr]
   simp [Kg3,Km1,Ka4,Jt4,Jh0,hlt0]
 · simp only [Jm8,push_cast,simprocAttr]
 · simp [Jc2]
 exact Ja0 (Jk5 _ _) Jb3
theorem Vv9 (s:SC)(R:RWs)(m:Ja1)(hR:ScR 140 119 223 148 155 m s R):Ctr Tryz.prog 38 [.agg (scC s R)] m (.one (.sl m.length 0 0 (Jm3 (glB s) s.nx).length)) (m++[⟨.grow,3,0,1,iL (Jm3 (glB s) s.nx)⟩]):=by
 refine Ctr.en Tryz.func38 [.tmp 2] 39 fun hwf Q hQ=>?_
 obtain ⟨kp,ep,hp⟩:=hR.hp
 have lp:=Ja7 hp
 obtain ⟨kx,ex,hx⟩:=hR.hx
 have lx:=Ja7 hx
 have np:=hR.np
 have nx:=hR.nx
 have pl:(Jb2 s.np (pC s)).length=s.np*5:=Ja6 (w:=5) (F:=pC s) (fun _=>rfl) _
 have xl:(Jb2 s.nx (xC s)).length=s.nx*13:=Ja6 (w:=13) (F:=xC s) (fun _=>rfl) _
 have hlt0:∀ k,¬m.length+k<m.length:=fun k=>by omega
 have ill:=fun l=>Ks6 l
 have w1:=(show IntKind.i64.wrap ((s.np:Int) - 1)=(s.np:Int) - 1 from wi (by omega))
 have U7:=ca4 hp (Ja4 hp) hx (ca4 (Ja4 hx) pl xl (ca4 w1 ill @Vf2 (ca4 @Vf3 @Jg0 @Jf6 (ca2 @Jf9 @Ja5))))
 refine AW.w 5 U7 Tru fun K J0=>?_
 refine AW.nilTm 3 1 3 rfl ?_
 try simp only [push_cast,simprocAttr,U7]
 refine AW.loopK [1,7,8] (fun i=>i<=s.nx) (fun i=>[(3,.one (.sl (m.length+1) (Jm3 (glB s) i).length 0 (Jm3 (glB s) i).length)),(9,.one (.int .i64 (i:Int)))]) (fun i=>[(m.length+1,⟨.grow,3,(Jm3 (glB s) i).length,1,iL (Jm3 (glB s) i)⟩)]) (fun i=>s.nx - i) 0 (by omega) ?_ ?_ fun i hi2=>?_
 · first|rfl|(simp only [KS,simprocAttr,Jm3,Int.natCast_zero,List.length_nil]<;>repeat' (first|rfl|apply And.intro))
 · simp only [Ja2,push_cast,simprocAttr,Jm3]<;>rfl
 try simp only [Ja9,Ja2,push_cast,simprocAttr,U7]
 refine AW.w 2 U7 Tru fun K J1=>?_
 refine AW.cond rfl (fun h10=>?_) (fun h10=>?_)
 ·have hlt:i<s.nx:=by have:=of_decide_eq_true h10;omega
  have c1:(0:Int)<=(i:Int):=by omega
  have c2:(i:Int)<(s.nx:Int):=by omega
  have c3:i*13+13<=s.nx*13:=by omega
  have ga:=Jb7 (w:=13) (F:=xC s) (fun _=>rfl) hlt
  have gx1:(Jb2 s.nx (xC s))[i*13+1]?=some (.int .i64 (s.xp i)):=Jg9 (w:=13) (F:=xC s) (fun _=>rfl) hlt (a:=1) (by omega)
  have gx:=Ke2 s i
  have hol:=Kv7 (glB s) i
  have q1:(Jm3 (glB s) i).length<=140737488355327:=by omega
  have q2:((Jm3 (glB s) i).length+1)*8<=140737488355328:=by omega
  refine AW.w 4 Tru Tru fun K J1=>?_
  have U8:=ca4 U7 c1 c2 (ca4 c3 ga gx1 (ca4 gx q1 q2 hlt))
  refine AW.c 1 U8 Tru ?_
  refine AW.q fun K J2=>?_
  have hk:inB (s.xp i) 0 ((s.np:Int) - 1)=false\/(inB (s.xp i) 0 ((s.np:Int) - 1)=true/\(s.pk (s.xp i).toNat ==3)=true)\/(inB (s.xp i) 0 ((s.np:Int) - 1)=true/\(s.pk (s.xp i).toNat ==3)=false):=by
    cases inB (s.xp i) 0 ((s.np:Int) - 1)<;>cases (s.pk (s.xp i).toNat ==3)<;>simp
  rcases hk with e1|⟨e1,e3⟩|⟨e1,e3⟩
  ·have hg:glB s i=false:=by
     have e2:¬(0<=s.xp i/\s.xp i<=(s.np:Int) - 1):=fun h=>by rw [inB_iff.2 h] at e1;cases e1
     by_cases q:0<=s.xp i
     · simp only [glB,decide_eq_false (show ¬s.xp i<(s.np:Int) by omega),Bool.false_and,Bool.and_false]
     simp only [glB,decide_eq_false q,Bool.false_and]
   have hu:Jm3 (glB s) (i+1)=Jm3 (glB s) i:=if_neg (by rw [hg];decide)
   have hu2:=True.intro
   have U9:=ca2 U8 e1
   refine AW.w 6 U9 Jp4 ?_
   have hwi:IntKind.i64.wrap ((i:Int)+1)=(i:Int)+1:=wi (by omega)
   refine ⟨i+1,by omega,by omega,?_⟩
   try simp only [Ja9,Ja2,push_cast,simprocAttr,U9,hwi,hu,hu2]
   first
    | exact Weak.to (extra:=[_]) (by simp only [KS,simprocAttr,hwi,hu,hu2]) (by first|rfl|(simp only [List.append_assoc,List.cons_append,List.nil_append];rfl)) (by first|rfl|(simp [AV.below,CV.below];done)|(simp [AV.below,CV.below];omega)) (by first|exact hwf|exact MWf.app (hwf.grow (by simp)) (Ja0 (by exact hR.bel _ (by simp)) (Ja0 (Jk5 _ _) Jb3)))
    | exact Weak.to (extra:=[_,_]) (by simp only [KS,simprocAttr,hwi,hu,hu2]) (by first|rfl|(simp only [List.append_assoc,List.cons_append,List.nil_append];rfl)) (by first|rfl|(simp [AV.below,CV.below];done)|(simp [AV.below,CV.below];omega)) (by first|exact hwf|exact MWf.app (hwf.grow (by simp)) (Ja0 (by exact hR.bel _ (by simp)) (Ja0 (Jk5 _ _) Jb3)))
  ·have e2:=inB_iff.1 e1
   have hg:glB s i=true:=by simp only [glB,decide_eq_true e2.1,decide_eq_true (show s.xp i<(s.np:Int) by omega),e3,Bool.and_self]
   have hu:Jm3 (glB s) (i+1)=Jm3 (glB s) i++[(i:Int)]:=if_pos hg
   have hu2:(Jm3 (glB s) i++[(i:Int)]).length=(Jm3 (glB s) i).length+1:=by simp
   obtain ⟨j,hj⟩:∃ j,j=(s.xp i).toNat:=⟨_,rfl⟩
   have hxj:s.xp i=(j:Int):=by omega
   have hjn:j<s.np:=by omega
   have d1:(0:Int)<=(j:Int):=by omega
   have d2:(j:Int)<(s.np:Int):=by omega
   have d3:j*5+5<=s.np*5:=by omega
   have d4:(Jb2 s.np (pC s))[j*5]?=some (.int .i64 (s.pk j)):=Jg9 (w:=5) (F:=pC s) (fun _=>rfl) hjn (a:=0) (by omega)
   rw [<-hj] at e3
   rw [hxj] at e1
   have U10:=ca4 U8 hxj e1 (ca4 d1 d2 d3 (ca3 d4 e3 hjn))
   refine AW.w 6 U10 Jp4 ?_
   have hwi:IntKind.i64.wrap ((i:Int)+1)=(i:Int)+1:=wi (by omega)
   refine ⟨i+1,by omega,by omega,?_⟩
   try simp only [Ja9,Ja2,push_cast,simprocAttr,U10,hwi,hu,hu2]
   first
    | exact Weak.to (extra:=[_]) (by simp only [KS,simprocAttr,hwi,hu,hu2]) (by first|rfl|(simp only [List.append_assoc,List.cons_append,List.nil_append];rfl)) (by first|rfl|(simp [AV.below,CV.below];done)|(simp [AV.below,CV.below];omega)) (by first|exact hwf|exact MWf.app (hwf.grow (by simp)) (Ja0 (by exact hR.bel _ (by simp)) (Ja0 (Jk5 _ _) Jb3)))
    | exact Weak.to (extra:=[_,_]) (by simp only [KS,simprocAttr,hwi,hu,hu2]) (by first|rfl|(simp only [List.append_assoc,List.cons_append,List.nil_append];rfl)) (by first|rfl|(simp [AV.below,CV.below];done)|(simp [AV.below,CV.below];omega)) (by first|exact hwf|exact MWf.app (hwf.grow (by simp)) (Ja0 (by exact hR.bel _ (by simp)) (Ja0 (Jk5 _ _) Jb3)))
  have e2:=inB_iff.1 e1
  have hg:glB s i=false:=by simp only [glB,e3,Bool.and_false]
  have hu:Jm3 (glB s) (i+1)=Jm3 (glB s) i:=if_neg (by rw [hg];decide)
  have hu2:=True.intro
  obtain ⟨j,hj⟩:∃ j,j=(s.xp i).toNat:=⟨_,rfl⟩
  have hxj:s.xp i=(j:Int):=by omega
  have hjn:j<s.np:=by omega
  have d1:(0:Int)<=(j:Int):=by omega
  have d2:(j:Int)<(s.np:Int):=by omega
  have d3:j*5+5<=s.np*5:=by omega
  have d4:(Jb2 s.np (pC s))[j*5]?=some (.int .i64 (s.pk j)):=Jg9 (w:=5) (F:=pC s) (fun _=>rfl) hjn (a:=0) (by omega)
  rw [<-hj] at e3
  rw [hxj] at e1
  have U11:=ca4 U8 hxj e1 (ca4 d1 d2 d3 (ca3 d4 e3 hjn))
  refine AW.w 6 U11 Jp4 ?_
  have hwi:IntKind.i64.wrap ((i:Int)+1)=(i:Int)+1:=wi (by omega)
  refine ⟨i+1,by omega,by omega,?_⟩
  try simp only [Ja9,Ja2,push_cast,simprocAttr,U11,hwi,hu,hu2]
  first
   | exact Weak.to (extra:=[_]) (by simp only [KS,simprocAttr,hwi,hu,hu2]) (by first|rfl|(simp only [List.append_assoc,List.cons_append,List.nil_append];rfl)) (by first|rfl|(simp [AV.below,CV.below];done)|(simp [AV.below,CV.below];omega)) (by first|exact hwf|exact MWf.app (hwf.grow (by simp)) (Ja0 (by exact hR.bel _ (by simp)) (Ja0 (Jk5 _ _) Jb3)))
   | exact Weak.to (extra:=[_,_]) (by simp only [KS,simprocAttr,hwi,hu,hu2]) (by first|rfl|(simp only [List.append_assoc,List.cons_append,List.nil_append];rfl)) (by first|rfl|(simp [AV.below,CV.below];done)|(simp [AV.below,CV.below];omega)) (by first|exact hwf|exact MWf.app (hwf.grow (by simp)) (Ja0 (by exact hR.bel _ (by simp)) (Ja0 (Jk5 _ _) Jb3)))
 have hin:i=s.nx:=by have:=of_decide_eq_false h10;omega
 rw [hin]
 refine AW.w 4 U7 Tru ?_
 refine hQ _ _ _ ?_
 refine RetP.pick [(m.length+1,(Jm3 (glB s) s.nx).length)] (by first|exact Or.inr rfl|exact Or.inl rfl) ?_ ?_ ?_ hwf ?_
 · simp only [Je0,Jb1,Jb9,AV.tv,push_cast,simprocAttr]
   simp [Kg3,Km1,Ka4,Jt4,Jh0,hlt0]
 · simp only [Jm8,push_cast,simprocAttr]
 · simp [Jc2]
 exact Ja0 (Jk5 _ _) Jb3
def fbN (f:Nat->Bool):Nat->Nat
 | 0=>0
 | n+1=>if fbN f n<n then fbN f n else if f n=true then n+1 else n
theorem Ko3 {f:Nat->Bool}{i:Nat}(h:∀ k,k<i->f k=true)(hi:f i=false):∀ n,i<n->fbN f n=i
 | 0,h0=>by omega
 | n+1,h0=>by
  unfold fbN
  rcases Nat.lt_or_ge i n with q|q
  ·have:=Ko3 h hi n q
   rw [if_pos (by omega)];exact this
  have e:i=n:=by omega
  subst e
  have:fbN f i=i:=by
   clear h0 q hi
   induction i with
   | zero=>rfl
   | succ k ih =>
    have ih:=ih fun j hj=>h j (by omega)
    unfold fbN
    rw [if_neg (by omega),if_pos (h k (by omega))]
  rw [if_neg (by omega),hi];rfl
theorem Kb1 {f:Nat->Bool}:∀ n,(∀ k,k<n->f k=true)->fbN f n=n
 | 0,_=>rfl
 | n+1,h=>by
  have:=Kb1 n fun k hk=>h k (by omega)
  unfold fbN
  rw [if_neg (by omega),if_pos (h n (by omega))]
theorem Kg7 (f:Nat->Bool):∀ n,fbN f n<=n
 | 0=>Nat.le_refl _
 | n+1=>by
  have:=Kg7 f n
  unfold fbN
  split
  ·omega
  split<;>omega
theorem Qo4 {f:Nat->Bool}:∀ n,fbN f n=n->∀ k,k<n->f k=true
 | 0,_,k,hk=>by omega
 | n+1,h,k,hk=>by
  unfold fbN at h
  split at h
  ·omega
  rename_i h0
  have:=Kg7 f n
  split at h
  ·rename_i h1
   rcases Nat.lt_or_ge k n with q|q
   ·exact Qo4 n (by omega) k q
   obtain rfl:k=n:=by omega
   exact h1
  omega
def TrS (s:SC)(i:Nat):Prop:=TrR (s.tw i) (s.kn i) (s.kt i) (s.kv i)
instance (s:SC)(i:Nat):Decidable (TrS s i):=by unfold TrS;exact inferInstance
def Ji5 (s:SC):Int × Int :=
 if ¬HdR s then (21,0) else if 32<s.np then (22,32) else if fbN (fun i=>decide (PaR s i)) s.np<s.np then (22,(fbN (fun i=>decide (PaR s i)) s.np:Nat)) else
 if 32<s.nt then (23,32) else if fbN (fun i=>decide (TrS s i)) s.nt<s.nt then (23,(fbN (fun i=>decide (TrS s i)) s.nt:Nat)) else
 if 32<s.nj then (24,32) else if fbN (fun i=>decide (JoR s i)) s.nj<s.nj then (24,(fbN (fun i=>decide (JoR s i)) s.nj:Nat)) else
 if 128<s.nx then (25,128) else if fbN (fun i=>decide (ShR s i)) s.nx<s.nx then (25,(fbN (fun i=>decide (ShR s i)) s.nx:Nat)) else
 if ¬LeR s then (26,0) else if 16<(Jm3 (glB s) s.nx).length then (27,(Jm3 (glB s) s.nx).getD 16 0) else (0,0)
theorem Xa2 (l:List Int)(i:Nat)(h:i<l.length):(iL l)[i]?=some (.int .i64 (l.getD i 0)):=iL_at (by rw [List.getD_eq_getElem?_getD,List.getElem?_eq_getElem h];rfl)
theorem Xw2 (s:SC)(R:RWs)(m:Ja1)(hR:ScR 138 143 285 146 150 m s R):Ctr Tryz.prog 18 [.agg (scC s R)] m (.tup [(false,[.int .i64 (Ji5 s).1]),(false,[.int .i64 (Ji5 s).2])]) m:=by
 refine Ctr.en Tryz.func18 [.tmp 2,.tmp 3] 98 fun hwf Q hQ=>?_
 obtain ⟨kp,ep,hp⟩:=hR.hp
 have lp:=Ja7 hp
 obtain ⟨kt,et,ht⟩:=hR.ht
 have lt:=Ja7 ht
 obtain ⟨kj,ej,hj⟩:=hR.hj
 have lj:=Ja7 hj
 obtain ⟨kx,ex,hx⟩:=hR.hx
 have lx:=Ja7 hx
 have np:=hR.np
 have nt:=hR.nt
 have nj:=hR.nj
 have nx:=hR.nx
 have pl:(Jb2 s.np (pC s)).length=s.np*5:=Ja6 (w:=5) (F:=pC s) (fun _=>rfl) _
 have tl:(Jb2 s.nt (tC s R)).length=s.nt*2:=Ja6 (w:=2) (F:=tC s R) (fun _=>rfl) _
 have jl:(Jb2 s.nj (jC s)).length=s.nj*4:=Ja6 (w:=4) (F:=jC s) (fun _=>rfl) _
 have xl:(Jb2 s.nx (xC s)).length=s.nx*13:=Ja6 (w:=13) (F:=xC s) (fun _=>rfl) _
 have hlt0:∀ k,¬m.length+k<m.length:=fun k=>by omega
 have hbox:∀ i,pC s i=[.int .i64 (s.pk i),.int .i64 (s.pc i 0),.int .i64 (s.pc i 1),.int .i64 (s.pc i 2),.int .i64 (s.pr i)]:=fun _=>rfl
 have hbt:∀ i,tC s R i=[.int .i64 (s.tw i),.sl (R.k i) (R.vk i) 0 (s.kn i)]:=fun _=>rfl
 have hbx:∀ i,xC s i=[.int .i64 (s.xj i),.int .i64 (s.xp i),.int .i64 (s.xk i),.int .i64 (s.xv i 0 0),.int .i64 (s.xv i 0 1),.int .i64 (s.xv i 0 2),.int .i64 (s.xv i 1 0),.int .i64 (s.xv i 1 1),.int .i64 (s.xv i 1 2),.int .i64 (s.xv i 2 0),.int .i64 (s.xv i 2 1),.int .i64 (s.xv i 2 2),.int .i64 (s.xr i)]:=fun _=>rfl
 have ill:=fun l=>Ks6 l
 have U1:=ca4 hp (Ja4 hp) ht (ca4 (Ja4 ht) hj (Ja4 hj) (ca4 hx (Ja4 hx) pl (ca4 tl jl xl (ca4 ill @Jg0 @Jf6 (ca2 @Jf9 @Ja5)))))
 refine AW.w 3 U1 (rhd_c s) fun K J0=>?_
 refine AW.cond rfl (fun h12=>?_) (fun h12=>?_)
 ·have hA:¬HdR s:=by simpa using h12
  rw [show Ji5 s=(21,0) from by unfold Ji5;rw [if_pos hA]] at hQ
  exact AW.f U1 Tru
 have hA:¬¬HdR s:=by simpa using h12
 refine AW.w 4 U1 Tru fun K J0=>?_
 refine AW.cond rfl (fun h16=>?_) (fun h16=>?_)
 ·have q1:32<s.np:=by have:=of_decide_eq_true h16;omega
  rw [show Ji5 s=(22,32) from by unfold Ji5;rw [if_neg hA,if_pos q1]] at hQ
  exact AW.f U1 Tru
 have h1:¬32<s.np:=by have:=of_decide_eq_false h16;omega
 refine AW.w 5 U1 Tru fun K J0=>?_
 refine AW.loopK [1] (fun i=>i<=s.np/\∀ k,k<i->PaR s k) (fun i=>[(4,.one (.int .i64 (i:Int)))]) (fun i=>[]) (fun i=>s.np - i) 0 ⟨by omega,fun k hk=>by omega⟩ ?_ ?_ fun i hi4=>?_
 · first|rfl|(simp only [KS,simprocAttr,Int.natCast_zero]<;>repeat' (first|rfl|apply And.intro))
 · first|rfl|(simp only [Ja2,push_cast,simprocAttr,U1,Int.natCast_zero]<;>rfl)
 obtain ⟨hin,hok⟩:=hi4
 try simp only [Ja9,Ja2,push_cast,simprocAttr,U1]
 refine AW.w 2 U1 Tru fun K J1=>?_
 refine AW.cond rfl (fun h21=>?_) (fun h21=>?_)
 ·have hlt:i<s.np:=by have:=of_decide_eq_true h21;omega
  have c1:(0:Int)<=(i:Int):=by omega
  have c2:(i:Int)<(s.np:Int):=by omega
  have c3:i*5+5<=s.np*5:=by omega
  have ga:=Jb7 (w:=5) (F:=pC s) (fun _=>rfl) hlt
  refine AW.w 4 Tru Tru fun K J1=>?_
  have U2:=ca4 U1 c1 c2 (ca3 c3 ga hbox)
  refine AW.c 1 U2 (rpa_c s i) ?_
  refine AW.cond rfl (fun h30=>?_) (fun h30=>?_)
  ·have hno:¬PaR s i:=by simpa [TrS] using h30
   have hfb:fbN (fun i=>decide (PaR s i)) s.np=i:=Ko3 (fun k hk=>decide_eq_true (hok k hk)) (decide_eq_false hno) _ hlt
   rw [show Ji5 s=(22,((i:Nat):Int)) from by unfold Ji5;rw [if_neg hA,if_neg h1,if_pos (by rw [hfb];exact hlt),hfb]] at hQ
   exact AW.f U2 Tru
  have hnow:PaR s i:=by simpa [TrS] using h30
  refine AW.w 3 U2 Tru ?_
  have hwi:IntKind.i64.wrap ((i:Int)+1)=(i:Int)+1:=wi (by omega)
  refine ⟨i+1,⟨by omega,fun k hk=>by
    rcases Nat.lt_or_ge k i with h|h
    · exact hok k h
    obtain rfl:k=i:=by omega
    exact hnow⟩,by omega,?_⟩
  try simp only [Ja9,Ja2,push_cast,simprocAttr,U2,hwi]
  first
   | exact Weak.same (by simp only [KS,simprocAttr,hwi]) (by first|rfl|simp only [KS,simprocAttr,hwi])
   | exact Weak.to (extra:=[_]) (by simp only [KS,simprocAttr,hwi]) (by first|rfl|(simp only [List.append_assoc,List.cons_append,List.nil_append];rfl)) (by first|rfl|(simp [AV.below,CV.below];done)|(simp [AV.below,CV.below];omega)) (by
      first|exact hwf|refine MWf.app (hwf.grow (by simp)) ?_
      repeat (first|exact Jb3|(refine Ja0 ?_ ?_;· first|rfl|(simp [CV.below];done)|(simp [CV.below];omega))))
 have hie:i=s.np:=by have:=of_decide_eq_false h21;omega
 have f1:¬fbN (fun i=>decide (PaR s i)) s.np<s.np:=by rw [Kb1 s.np fun k hk=>decide_eq_true (hok k (by omega))];omega
 refine AW.w 4 U1 Tru fun K J0=>?_
 refine AW.cond rfl (fun h35=>?_) (fun h35=>?_)
 ·have q2:32<s.nt:=by have:=of_decide_eq_true h35;omega
  rw [show Ji5 s=(23,32) from by unfold Ji5;rw [if_neg hA,if_neg h1,if_neg f1,if_pos q2]] at hQ
  exact AW.f U1 Tru
 have h2:¬32<s.nt:=by have:=of_decide_eq_false h35;omega
 refine AW.w 5 U1 Tru fun K J0=>?_
 refine AW.loopK [1] (fun i=>i<=s.nt/\∀ k,k<i->TrS s k) (fun i=>[(5,.one (.int .i64 (i:Int)))]) (fun i=>[]) (fun i=>s.nt - i) 0 ⟨by omega,fun k hk=>by omega⟩ ?_ ?_ fun i hi9=>?_
 · first|rfl|(simp only [KS,simprocAttr,Int.natCast_zero]<;>repeat' (first|rfl|apply And.intro))
 · first|rfl|(simp only [Ja2,push_cast,simprocAttr,U1,Int.natCast_zero]<;>rfl)
 obtain ⟨hin,hok⟩:=hi9
 try simp only [Ja9,Ja2,push_cast,simprocAttr,U1]
 refine AW.w 2 U1 Tru fun K J1=>?_
 refine AW.cond rfl (fun h40=>?_) (fun h40=>?_)
 ·have hlt:i<s.nt:=by have:=of_decide_eq_true h40;omega
  have c1:(0:Int)<=(i:Int):=by omega
  have c2:(i:Int)<(s.nt:Int):=by omega
  have c3:i*2+2<=s.nt*2:=by omega
  have ga:=Jb7 (w:=2) (F:=tC s R) (fun _=>rfl) hlt
  obtain ⟨kk,ek,hky⟩:=hR.hk i hlt
  have lky:=Ja7 hky
  refine AW.w 4 Tru Tru fun K J1=>?_
  have U3:=ca4 U1 c1 c2 (ca3 c3 ga hbt)
  refine AW.c 1 U3 (Ks1 (s.tw i) (R.k i) (R.vk i) (s.kn i) (s.kt i) (s.kv i) _ ⟨kk,ek,Ja4 hky _⟩) ?_
  refine AW.cond rfl (fun h49=>?_) (fun h49=>?_)
  ·have hno:¬TrS s i:=by simpa [TrS] using h49
   have hfb:fbN (fun i=>decide (TrS s i)) s.nt=i:=Ko3 (fun k hk=>decide_eq_true (hok k hk)) (decide_eq_false hno) _ hlt
   rw [show Ji5 s=(23,((i:Nat):Int)) from by unfold Ji5;rw [if_neg hA,if_neg h1,if_neg f1,if_neg h2,if_pos (by rw [hfb];exact hlt),hfb]] at hQ
   exact AW.f U3 Tru
  have hnow:TrS s i:=by simpa [TrS] using h49
  refine AW.w 3 U3 Tru ?_
  have hwi:IntKind.i64.wrap ((i:Int)+1)=(i:Int)+1:=wi (by omega)
  refine ⟨i+1,⟨by omega,fun k hk=>by
    rcases Nat.lt_or_ge k i with h|h
    · exact hok k h
    obtain rfl:k=i:=by omega
    exact hnow⟩,by omega,?_⟩
  try simp only [Ja9,Ja2,push_cast,simprocAttr,U3,hwi]
  first
   | exact Weak.same (by simp only [KS,simprocAttr,hwi]) (by first|rfl|simp only [KS,simprocAttr,hwi])
   | exact Weak.to (extra:=[_]) (by simp only [KS,simprocAttr,hwi]) (by first|rfl|(simp only [List.append_assoc,List.cons_append,List.nil_append];rfl)) (by first|rfl|(simp [AV.below,CV.below];done)|(simp [AV.below,CV.below];omega)) (by
      first|exact hwf|refine MWf.app (hwf.grow (by simp)) ?_
      repeat (first|exact Jb3|(refine Ja0 ?_ ?_;· first|rfl|(simp [CV.below];done)|(simp [CV.below];omega))))
 have hie:i=s.nt:=by have:=of_decide_eq_false h40;omega
 have f2:¬fbN (fun i=>decide (TrS s i)) s.nt<s.nt:=by rw [Kb1 s.nt fun k hk=>decide_eq_true (hok k (by omega))];omega
 refine AW.w 4 U1 Tru fun K J0=>?_
 refine AW.cond rfl (fun h54=>?_) (fun h54=>?_)
 ·have q3:32<s.nj:=by have:=of_decide_eq_true h54;omega
  rw [show Ji5 s=(24,32) from by unfold Ji5;rw [if_neg hA,if_neg h1,if_neg f1,if_neg h2,if_neg f2,if_pos q3]] at hQ
  exact AW.f U1 Tru
 have h3:¬32<s.nj:=by have:=of_decide_eq_false h54;omega
 refine AW.w 5 U1 Tru fun K J0=>?_
 refine AW.loopK [1] (fun i=>i<=s.nj/\∀ k,k<i->JoR s k) (fun i=>[(6,.one (.int .i64 (i:Int)))]) (fun i=>[]) (fun i=>s.nj - i) 0 ⟨by omega,fun k hk=>by omega⟩ ?_ ?_ fun i hi14=>?_
 · first|rfl|(simp only [KS,simprocAttr,Int.natCast_zero]<;>repeat' (first|rfl|apply And.intro))
 · first|rfl|(simp only [Ja2,push_cast,simprocAttr,U1,Int.natCast_zero]<;>rfl)
 obtain ⟨hin,hok⟩:=hi14
 try simp only [Ja9,Ja2,push_cast,simprocAttr,U1]
 refine AW.w 2 U1 Tru fun K J1=>?_
 refine AW.cond rfl (fun h59=>?_) (fun h59=>?_)
 ·have hlt:i<s.nj:=by have:=of_decide_eq_true h59;omega
  have c1:(0:Int)<=(i:Int):=by omega
  have c2:(i:Int)<(s.nj:Int):=by omega
  have c3:=True.intro
  have ga:=True.intro
  refine AW.w 4 Tru Tru fun K J1=>?_
  refine AW.sr 1 fun K J2=>?_
  have U4:=ca4 U1 c1 c2 (ca2 c3 ga)
  simp only [push_cast,simprocAttr,U4]
  refine CThen.by (rjo_c s R i _ hR.nt (by obtain ⟨k,e,h⟩:=hR.hj;exact ⟨k,e,Ja4 h _⟩) hlt hR.nj) ?_
  simp only [push_cast,simprocAttr,U4]
  apply J2
  refine AW.cond rfl (fun h65=>?_) (fun h65=>?_)
  ·have hno:¬JoR s i:=by simpa [TrS] using h65
   have hfb:fbN (fun i=>decide (JoR s i)) s.nj=i:=Ko3 (fun k hk=>decide_eq_true (hok k hk)) (decide_eq_false hno) _ hlt
   rw [show Ji5 s=(24,((i:Nat):Int)) from by unfold Ji5;rw [if_neg hA,if_neg h1,if_neg f1,if_neg h2,if_neg f2,if_neg h3,if_pos (by rw [hfb];exact hlt),hfb]] at hQ
   exact AW.f U4 Tru
  have hnow:JoR s i:=by simpa [TrS] using h65
  refine AW.w 3 U4 Tru ?_
  have hwi:IntKind.i64.wrap ((i:Int)+1)=(i:Int)+1:=wi (by omega)
  refine ⟨i+1,⟨by omega,fun k hk=>by
    rcases Nat.lt_or_ge k i with h|h
    · exact hok k h
    obtain rfl:k=i:=by omega
    exact hnow⟩,by omega,?_⟩
  try simp only [Ja9,Ja2,push_cast,simprocAttr,U4,hwi]
  first
   | exact Weak.same (by simp only [KS,simprocAttr,hwi]) (by first|rfl|simp only [KS,simprocAttr,hwi])
   | exact Weak.to (extra:=[_]) (by simp only [KS,simprocAttr,hwi]) (by first|rfl|(simp only [List.append_assoc,List.cons_append,List.nil_append];rfl)) (by first|rfl|(simp [AV.below,CV.below];done)|(simp [AV.below,CV.below];omega)) (by
      first|exact hwf|refine MWf.app (hwf.grow (by simp)) ?_
      repeat (first|exact Jb3|(refine Ja0 ?_ ?_;· first|rfl|(simp [CV.below];done)|(simp [CV.below];omega))))
 have hie:i=s.nj:=by have:=of_decide_eq_false h59;omega
 have f3:¬fbN (fun i=>decide (JoR s i)) s.nj<s.nj:=by rw [Kb1 s.nj fun k hk=>decide_eq_true (hok k (by omega))];omega
 refine AW.w 4 U1 Tru fun K J0=>?_
 refine AW.cond rfl (fun h70=>?_) (fun h70=>?_)
 ·have q4:128<s.nx:=by have:=of_decide_eq_true h70;omega
  rw [show Ji5 s=(25,128) from by unfold Ji5;rw [if_neg hA,if_neg h1,if_neg f1,if_neg h2,if_neg f2,if_neg h3,if_neg f3,if_pos q4]] at hQ
  exact AW.f U1 Tru
 have h4:¬128<s.nx:=by have:=of_decide_eq_false h70;omega
 refine AW.w 5 U1 Tru fun K J0=>?_
 refine AW.loopK [1] (fun i=>i<=s.nx/\∀ k,k<i->ShR s k) (fun i=>[(7,.one (.int .i64 (i:Int)))]) (fun i=>[]) (fun i=>s.nx - i) 0 ⟨by omega,fun k hk=>by omega⟩ ?_ ?_ fun i hi19=>?_
 · first|rfl|(simp only [KS,simprocAttr,Int.natCast_zero]<;>repeat' (first|rfl|apply And.intro))
 · first|rfl|(simp only [Ja2,push_cast,simprocAttr,U1,Int.natCast_zero]<;>rfl)
 obtain ⟨hin,hok⟩:=hi19
 try simp only [Ja9,Ja2,push_cast,simprocAttr,U1]
 refine AW.w 2 U1 Tru fun K J1=>?_
 refine AW.cond rfl (fun h75=>?_) (fun h75=>?_)
 ·have hlt:i<s.nx:=by have:=of_decide_eq_true h75;omega
  have c1:(0:Int)<=(i:Int):=by omega
  have c2:(i:Int)<(s.nx:Int):=by omega
  have c3:i*13+13<=s.nx*13:=by omega
  have ga:=Jb7 (w:=13) (F:=xC s) (fun _=>rfl) hlt
  refine AW.w 4 Tru Tru fun K J1=>?_
  have U5:=ca4 U1 c1 c2 (ca3 c3 ga hbx)
  refine AW.d [.rd 0,.val,.rd 0,.val,.val,.rd 0,.ext,.val] fol U5 (rsh_c s R i _ hR.nj hR.np) ?_
  refine AW.cond rfl (fun h85=>?_) (fun h85=>?_)
  ·have hno:¬ShR s i:=by simpa [TrS] using h85
   have hfb:fbN (fun i=>decide (ShR s i)) s.nx=i:=Ko3 (fun k hk=>decide_eq_true (hok k hk)) (decide_eq_false hno) _ hlt
   rw [show Ji5 s=(25,((i:Nat):Int)) from by unfold Ji5;rw [if_neg hA,if_neg h1,if_neg f1,if_neg h2,if_neg f2,if_neg h3,if_neg f3,if_neg h4,if_pos (by rw [hfb];exact hlt),hfb]] at hQ
   exact AW.f U5 Tru
  have hnow:ShR s i:=by simpa [TrS] using h85
  refine AW.w 3 U5 Tru ?_
  have hwi:IntKind.i64.wrap ((i:Int)+1)=(i:Int)+1:=wi (by omega)
  refine ⟨i+1,⟨by omega,fun k hk=>by
    rcases Nat.lt_or_ge k i with h|h
    · exact hok k h
    obtain rfl:k=i:=by omega
    exact hnow⟩,by omega,?_⟩
  try simp only [Ja9,Ja2,push_cast,simprocAttr,U5,hwi]
  first
   | exact Weak.same (by simp only [KS,simprocAttr,hwi]) (by first|rfl|simp only [KS,simprocAttr,hwi])
   | exact Weak.to (extra:=[_]) (by simp only [KS,simprocAttr,hwi]) (by first|rfl|(simp only [List.append_assoc,List.cons_append,List.nil_append];rfl)) (by first|rfl|(simp [AV.below,CV.below];done)|(simp [AV.below,CV.below];omega)) (by
      first|exact hwf|refine MWf.app (hwf.grow (by simp)) ?_
      repeat (first|exact Jb3|(refine Ja0 ?_ ?_;· first|rfl|(simp [CV.below];done)|(simp [CV.below];omega))))
 have hie:i=s.nx:=by have:=of_decide_eq_false h75;omega
 have f4:¬fbN (fun i=>decide (ShR s i)) s.nx<s.nx:=by rw [Kb1 s.nx fun k hk=>decide_eq_true (hok k (by omega))];omega
 refine AW.w 4 U1 (rle_c s R _ hR.nt) fun K J0=>?_
 refine AW.cond rfl (fun h89=>?_) (fun h89=>?_)
 ·have hL:¬LeR s:=by simpa using h89
  rw [show Ji5 s=(26,0) from by unfold Ji5;rw [if_neg hA,if_neg h1,if_neg f1,if_neg h2,if_neg f2,if_neg h3,if_neg f3,if_neg h4,if_neg f4,if_pos hL]] at hQ
  exact AW.f U1 Tru
 have hL:¬¬LeR s:=by simpa using h89
 refine AW.w 5 U1 (Xv9 s R _ (hR.app _)) fun K J0=>?_
 refine AW.cond rfl (fun h94=>?_) (fun h94=>?_)
 ·have hM:16<(Jm3 (glB s) s.nx).length:=by have:=of_decide_eq_true h94;omega
  have g16:=Xa2 _ 16 hM
  have c16:(16:Int)<((Jm3 (glB s) s.nx).length:Int):=by omega
  rw [show Ji5 s=(27,(Jm3 (glB s) s.nx).getD 16 0) from by unfold Ji5;rw [if_neg hA,if_neg h1,if_neg f1,if_neg h2,if_neg f2,if_neg h3,if_neg f3,if_neg h4,if_neg f4,if_neg hL,if_pos hM]] at hQ
  have U6:=ca4 U1 g16 c16 hM
  exact AW.fd [[.val,.val,.rd 0,.val,.val]] U6 Tru
 have hM:¬16<(Jm3 (glB s) s.nx).length:=by have:=of_decide_eq_false h94;omega
 rw [show Ji5 s=(0,0) from by unfold Ji5;rw [if_neg hA,if_neg h1,if_neg f1,if_neg h2,if_neg f2,if_neg h3,if_neg f3,if_neg h4,if_neg f4,if_neg hL,if_neg hM]] at hQ
 exact AW.f U1 Tru
def alV (f:Nat->Bool)(n:Nat):Int:=if fbN f n<n then ((fbN f n:Nat):Int) else -1
theorem Xb5 {f:Nat->Bool}{n i:Nat}(h:∀ k,k<i->f k=true)(hi:f i=false)(hn:i<n):alV f n=(i:Int):=by
 have:=Ko3 h hi n hn
 unfold alV;rw [if_pos (by omega),this]
theorem Vi4 {f:Nat->Bool}{n:Nat}(h:∀ k,k<n->f k=true):alV f n=-1:=by
 have:=Kb1 n h
 unfold alV;rw [if_neg (by omega)]
theorem Vi3 (n:Nat)(f:Nat->Bool)(m:Ja1)(hn:n<=1000000000000)(g r:Nat)(hc:∀ k:Nat,k<n->Ctr Tryz.prog g [.one (.int .i64 (k:Int)),.one (.ptr r 0 0)] m (.one (.bool (f k))) m):Ctr Tryz.prog 99 [.one (.int .i64 (n:Int)),.one (.fn g [(r,0,0)])] m (.one (.int .i64 (alV f n))) m:=by
 refine Ctr.en Tryz.func99 [.tmp 4] 16 fun hwf Q hQ=>?_
 refine AW.w 4 Tru Tru fun K J0=>?_
 refine AW.loopK [1,6] (fun i=>i<=n/\∀ k,k<i->f k=true) (fun i=>[(7,.one (.int .i64 (i:Int)))]) (fun i=>[]) (fun i=>n - i) 0 ⟨by omega,fun k hk=>by omega⟩ ?_ ?_ fun i hi2=>?_
 · first|rfl|(simp only [KS,simprocAttr,Int.natCast_zero]<;>repeat' (first|rfl|apply And.intro))
 · first|rfl|(simp only [Ja2,push_cast,simprocAttr,Int.natCast_zero]<;>rfl)
 obtain ⟨hin,hok⟩:=hi2
 try simp only [Ja9,Ja2,push_cast,simprocAttr]
 refine AW.w 2 Tru Tru fun K J1=>?_
 refine AW.cond rfl (fun h8=>?_) (fun h8=>?_)
 ·have hlt:i<n:=by have:=of_decide_eq_true h8;omega
  have c1:(0:Int)<=(i:Int):=by omega
  have c2:(i:Int)<(n:Int):=by omega
  refine AW.w 4 Tru Tru fun K J1=>?_
  have U1:=ca2 c1 c2
  refine AW.c 2 U1 (hc i hlt) ?_
  refine AW.cond rfl (fun h13=>?_) (fun h13=>?_)
  ·have hno:f i=false:=by simpa using h13
   rw [Xb5 hok hno hlt] at hQ
   exact AW.f U1 Tru
  have hnow:f i=true:=by simpa using h13
  refine AW.w 3 U1 Tru ?_
  have hwi:IntKind.i64.wrap ((i:Int)+1)=(i:Int)+1:=wi (by omega)
  exact Wk (i+1) U1 hwi (hI:=⟨by omega,fun k hk=>by
    rcases Nat.lt_or_ge k i with h|h
    · exact hok k h
    obtain rfl:k=i:=by omega
    exact hnow⟩)
 have hie:i=n:=by have:=of_decide_eq_false h8;omega
 rw [Vi4 fun k hk=>hok k (by omega)] at hQ
 exact AW.f Tru Tru
theorem Yd6 (n:Nat)(f:Nat->Bool)(m:Ja1)(hn:n<=1000000000000)(g:Nat)(cs:List SV)(hc:∀ k:Nat,k<n->Ctr Tryz.prog g [.agg (cs.map SV.cv),.one (.int .i64 (k:Int))] m (.one (.bool (f k))) m):Ctr Tryz.prog 99 [.one (.int .i64 (n:Int)),.one (.bm g cs)] m (.one (.int .i64 (alV f n))) m:=by
 refine Ctr.en Tryz.func99 [.tmp 4] 16 fun hwf Q hQ=>?_
 refine AW.w 4 Tru Tru fun K J0=>?_
 refine AW.loopK [1,6] (fun i=>i<=n/\∀ k,k<i->f k=true) (fun i=>[(7,.one (.int .i64 (i:Int)))]) (fun i=>[]) (fun i=>n - i) 0 ⟨by omega,fun k hk=>by omega⟩ ?_ ?_ fun i hi2=>?_
 · first|rfl|(simp only [KS,simprocAttr,Int.natCast_zero]<;>repeat' (first|rfl|apply And.intro))
 · first|rfl|(simp only [Ja2,push_cast,simprocAttr,Int.natCast_zero]<;>rfl)
 obtain ⟨hin,hok⟩:=hi2
 try simp only [Ja9,Ja2,push_cast,simprocAttr]
 refine AW.w 2 Tru Tru fun K J1=>?_
 refine AW.cond rfl (fun h8=>?_) (fun h8=>?_)
 ·have hlt:i<n:=by have:=of_decide_eq_true h8;omega
  have c1:(0:Int)<=(i:Int):=by omega
  have c2:(i:Int)<(n:Int):=by omega
  refine AW.w 4 Tru Tru fun K J1=>?_
  have U2:=ca2 c1 c2
  refine AW.c 2 U2 (hc i hlt) ?_
  refine AW.cond rfl (fun h13=>?_) (fun h13=>?_)
  ·have hno:f i=false:=by simpa using h13
   rw [Xb5 hok hno hlt] at hQ
   exact AW.f U2 Tru
  have hnow:f i=true:=by simpa using h13
  refine AW.w 3 U2 Tru ?_
  have hwi:IntKind.i64.wrap ((i:Int)+1)=(i:Int)+1:=wi (by omega)
  exact Wk (i+1) U2 hwi (hI:=⟨by omega,fun k hk=>by
    rcases Nat.lt_or_ge k i with h|h
    · exact hok k h
    obtain rfl:k=i:=by omega
    exact hnow⟩)
 have hie:i=n:=by have:=of_decide_eq_false h8;omega
 rw [Vi4 fun k hk=>hok k (by omega)] at hQ
 exact AW.f Tru Tru
theorem Yb6 (s:SC)(R:RWs)(b i:Nat)(m:Ja1)(hR:ScR 140 119 223 148 155 m s R)(hb:m[b]?=some ⟨.fix,52,0,0,scC s R⟩)(hi:i<s.np):Ctr Tryz.prog 92 [.one (.int .i64 (i:Int)),.one (.ptr b 0 0)] m (.one (.bool (decide (PaR s i)))) m:=by
 have lb:=Ja7 hb
 obtain ⟨kr,er,hr⟩:=hR.hp
 have lr:=Ja7 hr
 have hn:=hR.np
 have hb2:m[b]?=some ⟨.fix,52,0,0,[.int .i64 s.w,.int .i64 s.h,.int .i64 s.sm,.int .i64 s.dp,.int .i64 s.fr,.int .i64 s.sh,.int .u64 s.sd,.int .i64 (s.sk 0),.int .i64 (s.sk 1),.int .i64 (s.sk 2),.int .i64 s.ey,.int .i64 s.lk,.int .i64 s.wd,.sl R.p R.vp 0 s.np,.sl R.t R.vt 0 s.nt,.sl R.j R.vj 0 s.nj,.sl R.x R.vx 0 s.nx]⟩:=hb
 have rl:(Jb2 s.np (pC s)).length=s.np*5:=Ja6 (w:=5) (F:=pC s) (fun _=>rfl) _
 have hlt:i<s.np:=hi
 have c1:(0:Int)<=(i:Int):=by omega
 have c2:(i:Int)<(s.np:Int):=by omega
 have c3:i*5+5<=s.np*5:=by omega
 have ga:=Jb7 (w:=5) (F:=pC s) (fun _=>rfl) hlt
 have gp:=Kd0 s i
 have U3:=ca4 hb2 (Ja4 hb2) hr (ca4 (Ja4 hr) rl c1 (ca4 c2 c3 ga (ca2 hlt gp)))
 exact Ctr.f Tryz.func92 [.tmp 3] 10 U3 (cpa_c s i)
theorem Yb5 (s:SC)(R:RWs)(b i:Nat)(m:Ja1)(hR:ScR 140 119 223 148 155 m s R)(hb:m[b]?=some ⟨.fix,52,0,0,scC s R⟩)(hi:i<s.nt):Ctr Tryz.prog 94 [.one (.int .i64 (i:Int)),.one (.ptr b 0 0)] m (.one (.bool (decide (TrS s i)))) m:=by
 refine Ctr.en Tryz.func94 [.tmp 3] 10 fun hwf Q hQ=>?_
 have lb:=Ja7 hb
 obtain ⟨kr,er,hr⟩:=hR.ht
 have lr:=Ja7 hr
 have hn:=hR.nt
 have hb2:m[b]?=some ⟨.fix,52,0,0,[.int .i64 s.w,.int .i64 s.h,.int .i64 s.sm,.int .i64 s.dp,.int .i64 s.fr,.int .i64 s.sh,.int .u64 s.sd,.int .i64 (s.sk 0),.int .i64 (s.sk 1),.int .i64 (s.sk 2),.int .i64 s.ey,.int .i64 s.lk,.int .i64 s.wd,.sl R.p R.vp 0 s.np,.sl R.t R.vt 0 s.nt,.sl R.j R.vj 0 s.nj,.sl R.x R.vx 0 s.nx]⟩:=hb
 have rl:(Jb2 s.nt (tC s R)).length=s.nt*2:=Ja6 (w:=2) (F:=tC s R) (fun _=>rfl) _
 have hlt:i<s.nt:=hi
 have c1:(0:Int)<=(i:Int):=by omega
 have c2:(i:Int)<(s.nt:Int):=by omega
 have c3:i*2+2<=s.nt*2:=by omega
 have ga:=Jb7 (w:=2) (F:=tC s R) (fun _=>rfl) hlt
 obtain ⟨kk,ek,hky⟩:=hR.hk i hi
 have lky:=Ja7 hky
 have gp:=Vm0 s R i
 have gd:decide (TrS s i)=decide (TrR (s.tw i) (s.kn i) (s.kt i) (s.kv i)):=rfl
 rw [gd] at hQ
 have U4:=ca4 hb2 (Ja4 hb2) hr (ca4 (Ja4 hr) rl c1 (ca4 c2 c3 ga (ca2 hlt gp)))
 exact AW.f U4 (Kt1 (s.tw i) (R.k i) (R.vk i) (s.kn i) (s.kt i) (s.kv i) _ ⟨kk,ek,hky⟩)
theorem Yb4 (s:SC)(R:RWs)(b i:Nat)(m:Ja1)(hR:ScR 140 119 223 148 155 m s R)(hb:m[b]?=some ⟨.fix,52,0,0,scC s R⟩)(hi:i<s.nx):Ctr Tryz.prog 97 [.one (.int .i64 (i:Int)),.one (.ptr b 0 0)] m (.one (.bool (decide (ShR s i)))) m:=by
 have lb:=Ja7 hb
 obtain ⟨kr,er,hr⟩:=hR.hx
 have lr:=Ja7 hr
 have hn:=hR.nx
 have hb2:m[b]?=some ⟨.fix,52,0,0,[.int .i64 s.w,.int .i64 s.h,.int .i64 s.sm,.int .i64 s.dp,.int .i64 s.fr,.int .i64 s.sh,.int .u64 s.sd,.int .i64 (s.sk 0),.int .i64 (s.sk 1),.int .i64 (s.sk 2),.int .i64 s.ey,.int .i64 s.lk,.int .i64 s.wd,.sl R.p R.vp 0 s.np,.sl R.t R.vt 0 s.nt,.sl R.j R.vj 0 s.nj,.sl R.x R.vx 0 s.nx]⟩:=hb
 have rl:(Jb2 s.nx (xC s)).length=s.nx*13:=Ja6 (w:=13) (F:=xC s) (fun _=>rfl) _
 have hlt:i<s.nx:=hi
 have c1:(0:Int)<=(i:Int):=by omega
 have c2:(i:Int)<(s.nx:Int):=by omega
 have c3:i*13+13<=s.nx*13:=by omega
 have ga:=Jb7 (w:=13) (F:=xC s) (fun _=>rfl) hlt
 have gp:=Ke2 s i
 have U5:=ca4 hb2 (Ja4 hb2) hr (ca4 (Ja4 hr) rl c1 (ca4 c2 c3 ga (ca2 hlt gp)))
 exact Ctr.fd Tryz.func97 [.tmp 3] 11 [[.rd 0,.val,.rd 0,.val,.val,.rd 0,.ext,.val]] U5 (csh_c s R i _ hR.nj hR.np)
end Go.Proofs.YtaannomfigammaaGreat
