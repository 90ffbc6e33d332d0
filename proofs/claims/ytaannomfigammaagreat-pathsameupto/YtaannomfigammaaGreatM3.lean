/- Walks and facts of this seat's program over abstract states, printed by programs of mine; no conditions but those that each theorem names. -/
import Derived.Test.YtaannomfigammaaGreatM2
import Derived.ScopeJumps
import Derived.Scope
import Derived.JoinedCond
import Derived.LaidMore
import Derived.Stop.Joined
import Derived.Laws.Externs
set_option linter.unusedVariables false
set_option linter.unusedSimpArgs false
namespace Go.Eng
open Go
deriving instance DecidableEq for CV
deriving instance DecidableEq for BK
deriving instance DecidableEq for Blk
abbrev Qi3:=FuncId->List AV->Ja1->Option (AV × Ja1)
section
variable (P:Program)(call:Qi3)
def sameAt (r:Nat)(b:Blk):List Ja1->Bool
 | []=>true
 | M::Ms=>decide (M[r]?=some b)&&sameAt r b Ms
variable (pls:Nat->List Plan)(nt L:Nat)
end
section
variable {P:Program}{call:Qi3}
variable {pls:Nat->List Plan}{nt L:Nat}
end
theorem set_self {α:Type}:∀ {l:List α} {j:Nat} {v:α},l[j]?=some v->l.set j v=l
 | [],_,_,_=>rfl
 | x::l,0,v,h=>by simp at h;subst h;rfl
 | x::l,j+1,v,h=>by simp at h;simp [set_self h]
theorem All2.set_left {α β:Type}{R:α->β->Prop}{xa:List α}{bs:List β}(h:All2 R xa bs){j:Nat}{a:α}{b:β}(hb:bs[j]?=some b)(hr:R a b):All2 R (xa.set j a) bs:=by
 have:=h.set (i:=j) hr
 rwa [set_self hb] at this
section
variable {P:Program}{nt:Nat}{tm:Tm}{mem:Ja1}
theorem Qw3 {ρ:Env}{L:Nat}{v:Value}(h:VC ρ .nils v):VC (ρ.set L 0 (none,0)) (.sl L 0 0 0) v:=by
 have e:v=.slice none 0 0:=h
 subst e
 exact ⟨none,0,none,0,Env.set_same _ _ _ _,rfl,Nat.le_refl _,fun h=>by omega,fun _=>⟨rfl,rfl⟩⟩
theorem Rep.nilRow {ρ:Env}{a:Act}{w:World}(hr:Rep ρ nt tm mem a w)(ty esz:Nat)(mem1:Ja1)(hlen:mem1.length=mem.length)(hk:∀ (r:Nat) (b1:Blk),mem1[r]?=some b1->∃ b,mem[r]?=some b/\b1.kind=b.kind/\b1.ver=b.ver/\(b.kind=.ro->b1=b))
  (hb:∀ (r:Nat) (b1:Blk),mem1[r]?=some b1->BlkR (ρ.set mem.length 0 (none,0)) w r b1) (tm1:Tm) (ht:∀ i,VR (ρ.set mem.length 0 (none,0)) (Tm.get tm1 i) (a.tmps.getD i undef)) :
  Rep (ρ.set mem.length 0 (none,0)) nt tm1 (mem1++[⟨.grow,ty,0,esz,[]⟩]) a w/\∀ m0 ρ0 w0,Step m0 ρ0 w0 mem ρ w->Step m0 ρ0 w0 (mem1++[⟨.grow,ty,0,esz,[]⟩]) (ρ.set mem.length 0 (none,0)) w:=by
 have hle:ρ.le (ρ.set mem.length 0 (none,0)):=Env.le_set (hr.mem.dom _ _ (Nat.le_refl _))
 have hgt:∀ {s:Nat} {d:Blk},(mem1++[⟨.grow,ty,0,esz,[]⟩])[s]?=some d->(s<mem.length/\mem1[s]?=some d)\/(s=mem.length/\d=⟨.grow,ty,0,esz,[]⟩):=by
  intro s d hd
  rcases Nat.lt_or_ge s mem1.length with h|h
  ·rw [List.getElem?_append_left h] at hd;exact .inl ⟨by omega,hd⟩
  ·rw [List.getElem?_append_right h] at hd
   have hl:=(List.getElem?_eq_some_iff.1 hd).1
   simp at hl
   have:s=mem.length:=by omega
   subst this
   simp [hlen] at hd
   exact .inr ⟨rfl,hd.symm⟩
 have hoth:∀ {s v:Nat},s<mem.length->ρ.set mem.length 0 (none,0) s v=ρ s v:=fun {s v} h=>Env.set_other ρ _ (by omega)
 refine ⟨⟨hr.size,ht,⟨?_,?_,?_,?_⟩⟩,?_⟩
 ·intro s d hd
  rcases hgt hd with ⟨_,h1⟩|⟨rfl,rfl⟩
  ·exact hb s d h1
  ·exact .inl ⟨rfl,Env.set_same _ _ _ _⟩
 ·intro s v hs
  simp at hs
  rw [Env.set_other ρ _ (by omega)]
  exact hr.mem.dom s v (by omega)
 ·intro s d v hd hv
  rcases hgt hd with ⟨hl,h1⟩|⟨rfl,rfl⟩
  ·obtain ⟨b,h2,_,h3,_⟩:=hk s d h1
   rw [hoth hl];exact hr.mem.domv s b v h2 (by omega)
  ·simp only at hv
   rw [Env.set_other ρ _ (by omega)]
   exact hr.mem.dom _ _ (Nat.le_refl _)
 ·intro s t d e hd he hst hkd hne x y k1 k2 hx hy
  rcases hgt hd with ⟨hl,h1⟩|⟨rfl,rfl⟩
  ·rcases hgt he with ⟨hl',h1'⟩|⟨rfl,rfl⟩
   ·obtain ⟨b,h2,h3,h4,h5⟩:=hk s d h1
    obtain ⟨b',h2',h3',h4',h5'⟩:=hk t e h1'
    rw [hoth hl,h4] at hx
    rw [hoth hl',h4'] at hy
    exact hr.mem.sep s t b b' h2 h2' hst (by rw [<-h3];exact hkd) (fun h=>by rw [<-h5' h];exact hne (by rw [h3'];exact h)) x y k1 k2 hx hy
   ·simp only [Env.set_same] at hy
    injection hy with hy;injection hy with hy _;cases hy
  ·simp only [Env.set_same] at hx
   injection hx with hx;injection hx with hx _;cases hx
 ·intro m0 ρ0 w0 hs
  refine ⟨hs.os,hs.tape,hs.output,hs.size,?_,fun r hr v x hx=>hle _ _ _ (hs.ext r hr v x hx),?_,?_,?_,?_⟩
  ·have:=hs.len;simp;omega
  ·intro r b b' hb0 hb'
   have hl0:=(List.getElem?_eq_some_iff.1 hb0).1
   have:=hs.len
   rcases hgt hb' with ⟨hl,h1⟩|⟨rfl,rfl⟩
   ·obtain ⟨b2,h2,h3,_,_⟩:=hk r b' h1
    rw [h3];exact hs.kind r b b2 hb0 h2
   ·omega
  ·intro r b' hb' hro
   rcases hgt hb' with ⟨hl,h1⟩|⟨rfl,rfl⟩
   ·obtain ⟨b2,h2,h3,_,h5⟩:=hk r b' h1
    have e:=h5 (by rw [<-h3];exact hro)
    subst e
    exact hs.ro r b' h2 hro
   ·cases hro
  ·exact hs.frame
  ·intro r b' x k hb' hkd hx
   rcases hgt hb' with ⟨hl,h1⟩|⟨rfl,rfl⟩
   ·obtain ⟨b2,h2,h3,h4,h5⟩:=hk r b' h1
    rw [hoth hl,h4] at hx
    exact hs.fresh r b2 x k h2 (by rw [<-h3];exact hkd) hx
   ·simp only [Env.set_same] at hx
    injection hx with hx;injection hx with hx _;cases hx
theorem BlkR.nilCell {ρ ρ':Env}(hle:ρ.le ρ'){w:World}{r:Nat}{b:Blk}(hb:BlkR ρ w r b)(hk:b.kind≠.ro){j:Nat}(hj:b.cells[j]?=some .nils){c:CV}(hc:∀ v,VC ρ .nils v->VC ρ' c v):BlkR ρ' w r { b with cells:=b.cells.set j c }:=by
 obtain ⟨kind,ty,ver,esz,cells⟩:=b
 cases kind with
 | fix =>
  obtain ⟨n,cs,k,h1,h2,h3,hkk⟩:=hb
  obtain ⟨v,hv,hr⟩:=h3.get hj
  exact ⟨n,cs,k,hle _ _ _ h1,h2,(h3.mono fun _ _=>VC.mono hle).set_left hv (hc v hr),hkk⟩
 | grow =>
  rcases hb with ⟨h1,h2⟩|⟨n,cs,cap,xs,sp,h1,h2,h3,hcm,h4,h5⟩
  ·simp only at h1;subst h1;simp at hj
  ·obtain ⟨v,hv,hr⟩:=h5.get hj
   exact .inr ⟨n,cs,cap,xs,sp,hle _ _ _ h1,h2,h3,hcm,h4,(h5.mono fun _ _=>VC.mono hle).set_left hv (hc v hr)⟩
 | ro=>exact absurd rfl hk
 | map ka va clock es=>obtain ⟨n,o,k,_,_,_,h⟩:=hb;simp only at h;subst h;simp at hj
 | iter rm since seen last=>obtain ⟨n,N,k,k',_,_,_,h⟩:=hb;simp only at h;subst h;simp at hj
theorem AW.nilCell {c:Code}{Q:Exit->Tm->Ja1->Prop}(ty esz:Nat)(r j:Nat){b:Blk}(hb:mem[r]?=some b)(hk:b.kind≠.ro)(hj:b.cells[j]?=some .nils)
  (h:AW P nt c tm (mem.set r { b with cells:=b.cells.set j (.sl mem.length 0 0 0) }++[⟨.grow,ty,0,esz,[]⟩]) Q):AW P nt c tm mem Q:=by
 intro ρ a w hr
 have hle:ρ.le (ρ.set mem.length 0 (none,0)):=Env.le_set (hr.mem.dom _ _ (Nat.le_refl _))
 have hrl:=(List.getElem?_eq_some_iff.1 hb).1
 have hgt:∀ {s:Nat} {d:Blk},(mem.set r { b with cells:=b.cells.set j (.sl mem.length 0 0 0) })[s]?=some d->(s≠r/\mem[s]?=some d)\/(s=r/\d={ b with cells:=b.cells.set j (.sl mem.length 0 0 0) }):=by
  intro s d hd
  by_cases hs:s=r
  ·subst hs;rw [List.getElem?_set_self hrl] at hd;injection hd with hd;exact .inr ⟨rfl,hd.symm⟩
  ·rw [List.getElem?_set_ne (fun e=>hs e.symm)] at hd;exact .inl ⟨hs,hd⟩
 obtain ⟨h1,h2⟩:=hr.nilRow ty esz (mem.set r { b with cells:=b.cells.set j (.sl mem.length 0 0 0) }) (by simp) (fun s d hd=>by
   rcases hgt hd with ⟨_,h1⟩|⟨e1,e2⟩
   ·exact ⟨d,h1,rfl,rfl,fun _=>rfl⟩
   ·subst e1;subst e2;exact ⟨b,hb,rfl,rfl,fun h=>absurd h hk⟩) (fun s d hd=>by
   rcases hgt hd with ⟨_,h1⟩|⟨e1,e2⟩
   ·exact (hr.mem.blk s d h1).mono hle
   ·subst e1;subst e2;exact (hr.mem.blk s b hb).nilCell hle hk hj fun v hv=>Qw3 hv) tm (fun i=>(hr.tm i).mono hle)
 refine wp_mono (h _ a w h1) ?_
 rintro e a' w' ⟨ρ2,tm2,mem2,hr2,hs2,hd,hq⟩
 exact ⟨ρ2,tm2,mem2,hr2,(h2 mem ρ w (Step.refl _ _ _)).trans hs2,hd,hq⟩
theorem AW.nilTm {c:Code}{Q:Exit->Tm->Ja1->Prop}(ty esz:Nat)(d:Nat)(hd:Tm.get tm d=.one .nils)
  (h:AW P nt c ((d,.one (.sl mem.length 0 0 0))::tm) (mem++[⟨.grow,ty,0,esz,[]⟩]) Q):AW P nt c tm mem Q:=by
 intro ρ a w hr
 have hle:ρ.le (ρ.set mem.length 0 (none,0)):=Env.le_set (hr.mem.dom _ _ (Nat.le_refl _))
 obtain ⟨h1,h2⟩:=hr.nilRow ty esz mem rfl (fun s d hd=>⟨d,hd,rfl,rfl,fun _=>rfl⟩) (fun s d hd=>(hr.mem.blk s d hd).mono hle) ((d,.one (.sl mem.length 0 0 0))::tm) (fun i=>by
  rw [Tm.get_put]
  by_cases hi:i=d
  ·subst hi
   rw [if_pos rfl]
   have:=hr.tm i
   rw [hd] at this
   exact Qw3 this
  ·rw [if_neg hi];exact (hr.tm i).mono hle)
 refine wp_mono (h _ a w h1) ?_
 rintro e a' w' ⟨ρ2,tm2,mem2,hr2,hs2,hd,hq⟩
 exact ⟨ρ2,tm2,mem2,hr2,(h2 mem ρ w (Step.refl _ _ _)).trans hs2,hd,hq⟩
theorem AW.loopE {ι:Type}{c:Code}{Q:Exit->Tm->Ja1->Prop}(keep:List Nat)(m0:Ja1)(I:ι->Prop)(V:ι->Tm)(U:ι->List (Nat × Blk))(E:ι->Ja1)(μ:ι->Nat)(i:ι)(hi:I i)(hv:Keeps tm (V i))(hm:Ja4 m0 (U i)++E i=mem)
  (hE:∀ i j,I i->I j->μ j < μ i->(E i).length<=(E j).length)
  (h:∀ i,I i->AW P nt c (V i++Jb3 tm keep) (Ja4 m0 (U i)++E i) (Thn (fun tm' mem'=>∃ j,I j/\μ j < μ i/\Weak nt tm' mem' (V j++Jb3 tm keep) (Ja4 m0 (U j)++E j)) Q)):AW P nt (.loop c) tm mem Q:=by
 refine AW.weak (tm':=V i++Jb3 tm keep) (Keeps.append hv (Jr8 _ _)) ?_
 refine AW.loop (ι:={ i // I i }) (fun j=>V j.1++Jb3 tm keep) (fun j=>Ja4 m0 (U j.1)++E j.1) (fun j=>μ j.1) ⟨i,hi⟩ rfl hm fun ⟨j,hj⟩=>?_
 refine (h j hj).mono fun e tm' mem' hq=>?_
 cases e with
 | normal =>
  obtain ⟨k,hk,hlt,hw⟩:=hq
  exact ⟨⟨k,hk⟩,hlt,hw,by simp only [List.length_append,Jq5];have:=hE j k hj hk hlt;omega⟩
 | _=>exact hq
theorem AW.loopE0 {ι:Type}{c:Code}{Q:Exit->Tm->Ja1->Prop}(keep:List Nat)(I:ι->Prop)(V:ι->Tm)(U:ι->List (Nat × Blk))(E:ι->Ja1)(μ:ι->Nat)(i:ι)(hi:I i)(hv:Keeps tm (V i))(hm:Ja4 mem (U i)++E i=mem)
  (hE:∀ i j,I i->I j->μ j < μ i->(E i).length<=(E j).length)
  (h:∀ i,I i->AW P nt c (V i++Jb3 tm keep) (Ja4 mem (U i)++E i) (Thn (fun tm' mem'=>∃ j,I j/\μ j < μ i/\Weak nt tm' mem' (V j++Jb3 tm keep) (Ja4 mem (U j)++E j)) Q)):AW P nt (.loop c) tm mem Q :=
 AW.loopE keep mem I V U E μ i hi hv hm hE h
end
theorem Jj7 {α β:Type}{R:α->β->Prop}{t:α}{ts:List α}{l:List β}(h:All2 R (t::ts) l):∃ a xa,l=a::xa/\R t a/\All2 R ts xa:=by
 cases l with
 | nil=>exact h.elim
 | cons a xa=>exact ⟨a,xa,rfl,h.1,h.2⟩
theorem Qh9 {α β:Type}{R:α->β->Prop}{l:List β}(h:All2 R ([]:List α) l):l=[]:=by
 cases l with
 | nil=>rfl
 | cons a xa=>exact h.elim
theorem Xm6 (p1 p2 p3 p4 p5 p6:Prop):(p1/\p2/\p3/\p4/\p5/\p6)\/(p1/\p2/\p3/\p4/\p5/\¬p6)\/(p1/\p2/\p3/\p4/\¬p5/\True)\/(p1/\p2/\p3/\¬p4/\True/\True)\/(p1/\p2/\¬p3/\True/\True/\True)\/(p1/\¬p2/\True/\True/\True/\True)\/(¬p1/\True/\True/\True/\True/\True):=by
 rcases Classical.em p1 with h|h<;>rcases Qh5 p2 p3 p4 p5 p6 with h'|h'|h'|h'|h'|h'<;>simp [h,h']
theorem Xm5 (p1 p2 p3 p4 p5 p6 p7:Prop):(p1/\p2/\p3/\p4/\p5/\p6/\p7)\/(p1/\p2/\p3/\p4/\p5/\p6/\¬p7)\/(p1/\p2/\p3/\p4/\p5/\¬p6/\True)\/(p1/\p2/\p3/\p4/\¬p5/\True/\True)\/(p1/\p2/\p3/\¬p4/\True/\True/\True)\/(p1/\p2/\¬p3/\True/\True/\True/\True)\/(p1/\¬p2/\True/\True/\True/\True/\True)\/(¬p1/\True/\True/\True/\True/\True/\True):=by
 rcases Classical.em p1 with h|h<;>rcases Xm6 p2 p3 p4 p5 p6 p7 with h'|h'|h'|h'|h'|h'|h'<;>simp [h,h']
theorem Vr2 (p1 p2 p3 p4 p5 p6 p7 p8:Prop):(p1/\p2/\p3/\p4/\p5/\p6/\p7/\p8)\/(p1/\p2/\p3/\p4/\p5/\p6/\p7/\¬p8)\/(p1/\p2/\p3/\p4/\p5/\p6/\¬p7/\True)\/(p1/\p2/\p3/\p4/\p5/\¬p6/\True/\True)\/(p1/\p2/\p3/\p4/\¬p5/\True/\True/\True)\/(p1/\p2/\p3/\¬p4/\True/\True/\True/\True)\/(p1/\p2/\¬p3/\True/\True/\True/\True/\True)\/(p1/\¬p2/\True/\True/\True/\True/\True/\True)\/(¬p1/\True/\True/\True/\True/\True/\True/\True):=by
 rcases Classical.em p1 with h|h<;>rcases Xm5 p2 p3 p4 p5 p6 p7 p8 with h'|h'|h'|h'|h'|h'|h'|h'<;>simp [h,h']
def bef (σ:List Nat)(i j:Nat):Prop:=σ.idxOf i < σ.idxOf j
structure Lin (ops:Array Oper)(σ:List Nat):Prop where
 nd:σ.Nodup
 all:∀ i,i ∈ σ↔i<ops.size
 ord:∀ (j:Nat) (o:Oper),ops[j]?=some o->∀ e,e ∈ o.after->Region.binds .any e=true->bef σ e.on j
def Xc0 (ops:List Oper):Bool:=(List.range ops.length).all fun j=>match ops[j]? with
 | some o=>o.after.all fun e=>!Region.binds .any e || decide (e.on<j)
 | none=>true
theorem Qh8 {l:List Oper}(h:Xc0 l=true):∀ (j:Nat) (o:Oper),l.toArray[j]?=some o->∀ e,e ∈ o.after->Region.binds .any e=true->e.on<j:=by
 intro j o hj e he hb
 have hj':l[j]?=some o:=by simpa using hj
 have h1:=List.all_eq_true.1 h j (List.mem_range.2 (List.getElem?_eq_some_iff.1 hj').1)
 rw [hj'] at h1
 have h2:=Array.all_eq_true_iff_forall_mem.1 h1 e he
 simpa [hb] using h2
theorem Jn7 (i:Nat)(σ:List Nat)(k:Nat):(i::σ).idxOf k=if k=i then 0 else σ.idxOf k+1:=by
 rw [List.idxOf_cons]
 by_cases h:k=i
 ·subst h;simp
 ·have h1:(i ==k)=false:=by simpa using fun e=>h e.symm
  rw [if_neg h,h1];rfl
theorem Jr1:∀ {σ:List Nat} {i:Nat},i ∈ σ->σ[σ.idxOf i]?=some i
 | k::σ,i,h=>by
  rw [Jn7]
  by_cases e:i=k
  ·subst e;simp
  ·rw [if_neg e]
   rcases List.mem_cons.1 h with h|h
   ·exact absurd h e
   ·simpa using Jr1 h
theorem Qg0 (l:Array Bool)(i k:Nat)(d:Bool)(hi:i<l.size):(l.setIfInBounds i true).getD k d=if k=i then true else l.getD k d:=by
 simp only [Array.getD_eq_getD_getElem?]
 by_cases h:k=i
 ·subst h;simp [Array.getElem?_setIfInBounds_self_of_lt,hi]
 ·rw [if_neg h,Array.getElem?_setIfInBounds_ne (fun e=>h e.symm)]
def unl (n:Nat)(listed:Array Bool):Nat:=(List.range n).countP fun i=>!listed.getD i true
theorem Vj1 {ops:Array Oper}(hback:∀ (j:Nat) (o:Oper),ops[j]?=some o->∀ e,e ∈ o.after->Region.binds .any e=true->e.on<j) :
  ∀ (fuel t:Nat) (listed:Array Bool),listed.size=ops.size->unl ops.size listed<=fuel ->
   (∀ i,i ∈ Region.linearise.go .any ops fuel t listed []↔(i<ops.size/\listed.getD i true=false))/\(Region.linearise.go .any ops fuel t listed []).Nodup /\
   ∀ (j:Nat) (o:Oper),ops[j]?=some o->listed.getD j true=false->∀ e,e ∈ o.after->Region.binds .any e=true->listed.getD e.on false=true\/bef (Region.linearise.go .any ops fuel t listed []) e.on j:=by
 have hnone:∀ (listed:Array Bool),listed.size=ops.size->Region.ready .any ops listed=[]->∀ j,j<ops.size->listed.getD j true=true:=by
  intro listed hsz hr j
  induction j using Nat.strongRecOn with
  | _ j ih =>
   intro hj
   cases hl:listed.getD j true with
   | true=>rfl
   | false =>
    exfalso
    have hm:j ∈ Region.ready .any ops listed:=by
     simp only [Region.ready,List.mem_filter,List.mem_range]
     refine ⟨hj,?_⟩
     rw [hl,Array.getElem?_eq_getElem hj]
     simp only [Bool.not_false,Option.map_some,Option.getD_some,Bool.true_and]
     refine Array.all_eq_true_iff_forall_mem.2 fun e he=>?_
     cases hb:Region.binds .any e with
     | false=>rfl
     | true =>
      have hlt:=hback j _ (Array.getElem?_eq_getElem hj) e he hb
      have h1:=ih e.on hlt (by omega)
      simp only [Bool.not_true,Bool.false_or]
      have:e.on<listed.size:=by omega
      simpa [Array.getD_eq_getD_getElem?,this] using h1
    rw [hr] at hm
    cases hm
 intro fuel
 induction fuel with
 | zero =>
  intro t listed hsz hc
  have h0:∀ i,i<ops.size->listed.getD i true=true:=fun i hi=>by
   cases hl:listed.getD i true with
   | true=>rfl
   | false =>
    have:0<unl ops.size listed:=List.countP_pos_iff.2 ⟨i,List.mem_range.2 hi,by simp only [hl,Bool.not_false]⟩
    omega
  simp only [Region.linearise.go]
  refine ⟨fun i=>⟨fun h=>(by simp at h),fun h=>?_⟩,(by simp),fun j o hj hl e he hb=>?_⟩
  ·have:=h0 i h.1;rw [this] at h;cases h.2
  ·have:=h0 j (Array.getElem?_eq_some_iff.1 hj).1;rw [this] at hl;cases hl
 | succ fuel ih =>
  intro t listed hsz hc
  simp only [Region.linearise.go]
  change (∀ i,i ∈ (match (Region.ready .any ops listed)[t%(Region.ready .any ops listed).length]? with
   | some i=>Region.linearise.go .any ops fuel (t / (Region.ready .any ops listed).length) (listed.setIfInBounds i true) [i]
   | none=>[].reverse)↔(i<ops.size/\listed.getD i true=false))/\(match (Region.ready .any ops listed)[t%(Region.ready .any ops listed).length]? with
   | some i=>Region.linearise.go .any ops fuel (t / (Region.ready .any ops listed).length) (listed.setIfInBounds i true) [i]
   | none=>[].reverse).Nodup/\∀ (j:Nat) (o:Oper),ops[j]?=some o->listed.getD j true=false->∀ e,e ∈ o.after->Region.binds .any e=true->listed.getD e.on false=true\/bef (match (Region.ready .any ops listed)[t%(Region.ready .any ops listed).length]? with
   | some i=>Region.linearise.go .any ops fuel (t / (Region.ready .any ops listed).length) (listed.setIfInBounds i true) [i]
   | none=>[].reverse) e.on j
  cases hi:(Region.ready .any ops listed)[t%(Region.ready .any ops listed).length]? with
  | none =>
   have hnil:Region.ready .any ops listed=[]:=by
    cases hr:Region.ready .any ops listed with
    | nil=>rfl
    | cons x xs =>
     rw [hr] at hi
     have hlt:t%(x::xs).length<(x::xs).length:=Nat.mod_lt _ (by simp)
     simp at hi
     simp at hlt
     omega
   have h0:=hnone listed hsz hnil
   refine ⟨fun i=>⟨fun h=>(by simp at h),fun h=>?_⟩,(by simp),fun j o hj hl e he hb=>?_⟩
   ·have:=h0 i h.1;rw [this] at h;cases h.2
   ·have:=h0 j (Array.getElem?_eq_some_iff.1 hj).1;rw [this] at hl;cases hl
  | some i =>
   have hm:=List.mem_of_getElem? hi
   simp only [Region.ready,List.mem_filter,List.mem_range,Bool.and_eq_true,Bool.not_eq_true'] at hm
   obtain ⟨hil,hiu,hie⟩:=hm
   simp only []
   rw [linearise_go_acc,List.reverse_singleton,List.singleton_append]
   have hsz':(listed.setIfInBounds i true).size=ops.size:=by simpa using hsz
   have hget:∀ k d,(listed.setIfInBounds i true).getD k d=if k=i then true else listed.getD k d:=fun k d=>Qg0 _ _ _ _ (by omega)
   have hcnt:unl ops.size (listed.setIfInBounds i true)<unl ops.size listed:=by
    refine Kk0 (fun k _ hk=>?_) i (List.mem_range.2 hil) (by rw [hiu];rfl) (by rw [hget,if_pos rfl];rfl)
    rw [hget] at hk
    by_cases e:k=i
    ·rw [if_pos e] at hk;cases hk
    ·rw [if_neg e] at hk;exact hk
   obtain ⟨h1,h2,h3⟩:=ih (t / (Region.ready .any ops listed).length) (listed.setIfInBounds i true) hsz' (by omega)
   generalize Region.linearise.go .any ops fuel (t / (Region.ready .any ops listed).length) (listed.setIfInBounds i true) []=τ at *
   have hin:i ∉ τ:=fun h=>by
    have:=((h1 i).1 h).2
    rw [hget,if_pos rfl] at this;cases this
   refine ⟨fun k=>?_,List.nodup_cons.2 ⟨hin,h2⟩,fun j o hj hl e he hb=>?_⟩
   ·rw [List.mem_cons,h1 k,hget]
    by_cases e:k=i
    ·subst e;simp [hil,hiu]
    ·rw [if_neg e];simp [e]
   ·unfold bef
    rw [Jn7,Jn7]
    by_cases ej:j=i
    ·subst ej
     rw [hj] at hie
     simp only [Option.map_some,Option.getD_some] at hie
     have:=Array.all_eq_true_iff_forall_mem.1 hie e he
     simp only [hb,Bool.not_true,Bool.false_or] at this
     exact .inl this
    ·rw [if_neg ej]
     rcases h3 j o hj (by rw [hget,if_neg ej];exact hl) e he hb with h|h
     ·rw [hget] at h
      by_cases eo:e.on=i
      ·exact .inr (by rw [if_pos eo];omega)
      ·rw [if_neg eo] at h;exact .inl h
     ·right
      unfold bef at h
      split<;>omega
theorem Xi6 {ops:Array Oper}(hback:∀ (j:Nat) (o:Oper),ops[j]?=some o->∀ e,e ∈ o.after->Region.binds .any e=true->e.on<j)(t:Nat):Lin ops (Region.linearise .any ops t):=by
 have hrep:∀ k,(Array.replicate ops.size false).getD k false=false:=fun k=>by
  simp only [Array.getD_eq_getD_getElem?,Array.getElem?_replicate];split<;>rfl
 have hrep':∀ k,k<ops.size->(Array.replicate ops.size false).getD k true=false:=fun k hk=>by
  simp only [Array.getD_eq_getD_getElem?,Array.getElem?_replicate];rw [if_pos hk];rfl
 have h:=Vj1 hback ops.size t (Array.replicate ops.size false) (by simp) (by
  unfold unl
  have:=List.countP_le_length (p:=fun i=>!(Array.replicate ops.size false).getD i true) (l:=List.range ops.size)
  simpa using this)
 refine ⟨h.2.1,fun i=>?_,fun j o hj e he hb=>?_⟩
 ·rw [show Region.linearise .any ops t=Region.linearise.go .any ops ops.size t (Array.replicate ops.size false) [] from rfl,h.1 i]
  exact ⟨fun h=>h.1,fun h=>⟨h,hrep' i h⟩⟩
 ·rcases h.2.2 j o hj (hrep' j (Array.getElem?_eq_some_iff.1 hj).1) e he hb with h1|h1
  ·rw [hrep] at h1;cases h1
  ·exact h1
theorem Qp6 {P:Program}{ops:Array Oper}{Q:Exit->Act->World->Prop}{σ:List Nat}(hl:Lin ops σ) :
  ∀ (suf pre:List Nat) (fuel:Nat) (listed:Array Bool) (a:Act) (w:World),pre++suf=σ->listed.size=ops.size->(∀ k,k<ops.size->listed.getD k false=decide (k ∈ pre))->suf.length<=fuel ->
   wpAny P .any ops Q fuel listed a w->wpOps P ops Q suf a w:=by
 intro suf
 induction suf with
 | nil =>
  intro pre fuel listed a w hp hsz hli hf h
  have hr:Region.ready .any ops listed=[]:=by
   refine List.eq_nil_iff_forall_not_mem.2 fun i hi=>?_
   simp only [Region.ready,List.mem_filter,List.mem_range,Bool.and_eq_true,Bool.not_eq_true'] at hi
   have h1:=hli i hi.1
   have h2:i ∈ pre:=by rw [List.append_nil] at hp;rw [hp];exact (hl.all i).2 hi.1
   have h3:listed.getD i true=true:=by
    have:i<listed.size:=by have:=hi.1;omega
    simp only [decide_eq_true h2] at h1
    simpa [Array.getD_eq_getD_getElem?,this] using h1
   rw [h3] at hi
   cases hi.2.1
  cases fuel with
  | zero=>exact h.2
  | succ f=>exact h.1 hr
 | cons i suf ih =>
  intro pre fuel listed a w hp hsz hli hf h
  have hnd:=hl.nd
  rw [<-hp] at hnd
  have hil:i<ops.size:=(hl.all i).1 (by rw [<-hp];simp)
  have hip:i ∉ pre:=fun hh=>(List.nodup_append.1 hnd).2.2 i hh i List.mem_cons_self rfl
  have hidx:σ.idxOf i=pre.length:=by
   rw [<-hp,List.idxOf_append,if_neg hip];simp
  have hrd:i ∈ Region.ready .any ops listed:=by
   simp only [Region.ready,List.mem_filter,List.mem_range,Bool.and_eq_true,Bool.not_eq_true']
   refine ⟨hil,?_,?_⟩
   ·have h1:=hli i hil
    rw [decide_eq_false hip] at h1
    have:i<listed.size:=by omega
    simpa [Array.getD_eq_getD_getElem?,this] using h1
   ·rw [Array.getElem?_eq_getElem hil]
    simp only [Option.map_some,Option.getD_some]
    refine Array.all_eq_true_iff_forall_mem.2 fun e he=>?_
    cases hb:Region.binds .any e with
    | false=>rfl
    | true =>
     have h1:=hl.ord i _ (Array.getElem?_eq_getElem hil) e he hb
     unfold bef at h1
     rw [hidx] at h1
     have hmem:e.on ∈ pre:=by
      rw [<-hp,List.idxOf_append] at h1
      by_cases hm:e.on ∈ pre
      ·exact hm
      ·rw [if_neg hm] at h1;omega
     have hlt:e.on<ops.size:=(hl.all _).1 (by rw [<-hp];exact List.mem_append_left _ hmem)
     simp only [Bool.not_true,Bool.false_or]
     rw [hli _ hlt,decide_eq_true hmem]
  cases fuel with
  | zero=>simp at hf
  | succ f =>
   rw [wpOps_cons]
   refine wpOp_mono (fun a w=>ih (pre++[i]) f (listed.setIfInBounds i true) a w (by simpa using hp) (by simpa using hsz) (fun k hk=>?_) (by simpa using hf)) (h.2 i hrd)
   rw [Qg0 _ _ _ _ (by omega),hli k hk]
   by_cases e:k=i
   ·subst e;simp
   ·rw [if_neg e];simp [e]
def Xg4 (π:List Nat)(ext:List (Nat × Nat))(i:Nat)(af:Array Edge):Array Edge:=((af.toList.map fun e:Edge=>(⟨π.idxOf e.on,e.ground⟩:Edge))++((ext.filter fun p=>p.2 ==i).map fun p=>(⟨π.idxOf p.1,.data⟩:Edge))).toArray
def Qp0 (π:List Nat)(ext:List (Nat × Nat))(i:Nat)(o:Oper):Oper :=
 ⟨o.dst,o.op,o.type,o.pos,Xg4 π ext i o.after,o.guard.map fun g=>(π.idxOf g.1,g.2)⟩
def Jo3 (ops:List Oper)(π:List Nat)(ext:List (Nat × Nat)):List Oper:=π.map fun i=>Qp0 π ext i (ops[i]?.getD default)
def Jy7 (n:Nat)(π:List Nat):Bool:=decide (π.length=n)&&π.all (fun i=>decide (i<n))&&(List.range n).all (fun i=>π.contains i)&&decide π.Nodup
section
variable {ops:List Oper}{π:List Nat}{ext:List (Nat × Nat)}
theorem Jo7 {n:Nat}(h:Jy7 n π=true):π.length=n/\(∀ i,i ∈ π↔i<n)/\π.Nodup:=by
 simp only [Jy7,Bool.and_eq_true,decide_eq_true_eq,List.all_eq_true,List.mem_range,List.contains_iff_mem] at h
 obtain ⟨⟨⟨h1,h2⟩,h3⟩,h4⟩:=h
 exact ⟨h1,fun i=>⟨h2 i,h3 i⟩,h4⟩
theorem Kv4 {n:Nat}(hn:ops.length=n)(h:Jy7 n π=true){i:Nat}{o:Oper}(ho:ops[i]?=some o):(Jo3 ops π ext)[π.idxOf i]?=some (Qp0 π ext i o):=by
 obtain ⟨h1,h2,h3⟩:=Jo7 h
 have hi:i<n:=by rw [<-hn];exact (List.getElem?_eq_some_iff.1 ho).1
 have hm:=(h2 i).2 hi
 unfold Jo3
 rw [List.getElem?_map,Jr1 hm]
 simp [ho]
theorem Qy4 {n:Nat}(h:Jy7 n π=true){i j:Nat}(hi:i<n)(he:π.idxOf i=π.idxOf j):i=j:=by
 obtain ⟨h1,h2,h3⟩:=Jo7 h
 have hm:=(h2 i).2 hi
 have e1:=Jr1 hm
 have hj:j ∈ π:=by
  refine List.idxOf_lt_length_iff.1 ?_
  rw [<-he];exact List.idxOf_lt_length_iff.2 hm
 have e2:=Jr1 hj
 rw [<-he,e1] at e2
 injection e2
theorem Jz3 {n:Nat}(h:Jy7 n π=true):∀ (σ:List Nat),(∀ k,k ∈ σ->k<n)->∀ {i:Nat},i<n->(σ.map fun k=>π.idxOf k).idxOf (π.idxOf i)=σ.idxOf i
 | [],_,i,_=>rfl
 | k::σ,hs,i,hi=>by
  rw [List.map_cons,Jn7,Jn7,Jz3 h σ (fun k hk=>hs k (List.mem_cons_of_mem _ hk)) hi]
  by_cases e:i=k
  ·subst e;simp
  ·rw [if_neg e,if_neg fun he=>e (Qy4 h hi he)]
theorem Lin.perm {σ:List Nat}(hl:Lin ops.toArray σ)(h:Jy7 ops.length π=true)(he:∀ p,p ∈ ext->bef σ p.1 p.2/\p.1<ops.length)(hb:∀ (j:Nat) (o:Oper),ops.toArray[j]?=some o->∀ e,e ∈ o.after->Region.binds .any e=true->e.on<j) :
  Lin (Jo3 ops π ext).toArray (σ.map fun k=>π.idxOf k):=by
 obtain ⟨h1,h2,h3⟩:=Jo7 h
 have hlt:∀ k,k ∈ σ->k<ops.length:=fun k hk=>by simpa using (hl.all k).1 hk
 have hsz:(Jo3 ops π ext).toArray.size=ops.length:=by simp [Jo3,h1]
 have hmapnd:∀ τ:List Nat,(∀ k,k ∈ τ->k<ops.length)->τ.Nodup->(τ.map fun k=>π.idxOf k).Nodup:=by
  intro τ
  induction τ with
  | nil=>intro _ _;simp
  | cons k τ ih =>
   intro hk hnd
   obtain ⟨hk1,hk2⟩:=List.nodup_cons.1 hnd
   rw [List.map_cons]
   refine List.nodup_cons.2 ⟨fun hm=>?_,ih (fun k hk'=>hk k (List.mem_cons_of_mem _ hk')) hk2⟩
   obtain ⟨k',hk',e⟩:=List.mem_map.1 hm
   have:=Qy4 h (hk k' (List.mem_cons_of_mem _ hk')) e
   subst this;exact hk1 hk'
 refine ⟨hmapnd σ hlt hl.nd,fun i=>?_,fun j o hj e hee hbe=>?_⟩
 ·rw [hsz,List.mem_map]
  constructor
  ·rintro ⟨k,hk,rfl⟩
   rw [<-h1];exact List.idxOf_lt_length_iff.2 ((h2 k).2 (hlt k hk))
  ·intro hi
   have hi':i < π.length:=by omega
   refine ⟨π[i],(hl.all _).2 (by simpa using (h2 _).1 (List.getElem_mem hi')),h3.idxOf_getElem i hi'⟩
 ·have hj':(Jo3 ops π ext)[j]?=some o:=by simpa using hj
  unfold Jo3 at hj'
  rw [List.getElem?_map,Option.map_eq_some_iff] at hj'
  obtain ⟨i,hi,rfl⟩:=hj'
  have hil:i<ops.length:=(h2 i).1 (List.mem_of_getElem? hi)
  have hji:π.idxOf i=j:=by
   obtain ⟨hjl,e⟩:=List.getElem?_eq_some_iff.1 hi
   rw [<-e];exact h3.idxOf_getElem j hjl
  have ho:ops[i]?=some (ops[i]'hil):=List.getElem?_eq_getElem hil
  rw [ho] at hee
  simp only [Option.getD_some,Qp0,Xg4,List.mem_toArray,List.mem_append,List.mem_map,List.mem_filter] at hee
  unfold bef
  rw [<-hji,Jz3 h σ hlt hil]
  rcases hee with ⟨e0,he0,rfl⟩|⟨p,⟨hp,hpi⟩,rfl⟩
  ·have hb0:Region.binds .any e0=true:=by simpa [Region.binds] using hbe
   have hlt0:=hb i _ (by rw [List.getElem?_toArray];exact ho) e0 (by simpa using he0) hb0
   simp only
   rw [Jz3 h σ hlt (by omega)]
   exact hl.ord i _ (by rw [List.getElem?_toArray];exact ho) e0 (by simpa using he0) hb0
  ·have hpe:p.2=i:=by simpa using hpi
   simp only
   rw [Jz3 h σ hlt (he p hp).2,<-hpe]
   exact (he p hp).1
theorem Qp5 {P:Program}{Q:Exit->Act->World->Prop}(h:Jy7 ops.length π=true){i:Nat}(hi:i<ops.length){K:Act->World->Prop}{a:Act}{w:World}
  (hw:wpOp P (Jo3 ops π ext).toArray Q (π.idxOf i) K a w):wpOp P ops.toArray Q i K a w:=by
 obtain ⟨h1,h2,h3⟩:=Jo7 h
 have ho:ops[i]?=some (ops[i]'hi):=List.getElem?_eq_getElem hi
 generalize ops[i]'hi=o at ho
 have hy:∀ g,yielded (Jo3 ops π ext).toArray a.tmps (π.idxOf g)=yielded ops.toArray a.tmps g:=by
  intro g
  unfold yielded
  rcases Nat.lt_or_ge g ops.length with hg|hg
  ·have hg':ops[g]?=some (ops[g]'hg):=List.getElem?_eq_getElem hg
   simp only [List.getElem?_toArray,Kv4 rfl h hg',hg',Qp0,Option.bind_some]
  ·have e1:ops[g]?=none:=List.getElem?_eq_none hg
   have e2:(Jo3 ops π ext)[π.idxOf g]?=none:=List.getElem?_eq_none (by
    have:g ∉ π:=fun hm=>by have:=(h2 g).1 hm;omega
    rw [List.idxOf_eq_length this];simp [Jo3])
   simp only [List.getElem?_toArray,e1,e2]
 have hwant:Region.wanted (Qp0 π ext i o) (yielded (Jo3 ops π ext).toArray a.tmps)=Region.wanted o (yielded ops.toArray a.tmps):=by
  simp only [Region.wanted,Qp0]
  cases o.guard with
  | none=>rfl
  | some g=>simp only [Option.map_some,hy]
 unfold wpOp at hw ⊢
 simp only [List.getElem?_toArray,Kv4 rfl h ho,hwant] at hw
 simp only [List.getElem?_toArray,ho]
 exact hw
theorem Kn0 {P:Program}{Q:Exit->Act->World->Prop}(h:Jy7 ops.length π=true):∀ (σ:List Nat),(∀ k,k ∈ σ->k<ops.length)->∀ (a:Act) (w:World),wpOps P (Jo3 ops π ext).toArray Q (σ.map fun k=>π.idxOf k) a w->wpOps P ops.toArray Q σ a w
 | [],_,a,w,hw=>hw
 | i::σ,hs,a,w,hw=>by
  rw [List.map_cons,wpOps_cons] at hw
  rw [wpOps_cons]
  exact Qp5 h (hs i List.mem_cons_self) (wpOp_mono (fun a w=>Kn0 h σ (fun k hk=>hs k (List.mem_cons_of_mem _ hk)) a w) hw)
end
section
variable {P:Program}{nt:Nat}{tm:Tm}{mem:Ja1}
def DX (P:Program)(nt:Nat)(ops:List Oper)(ext:List (Nat × Nat))(tm:Tm)(mem:Ja1)(K:Tm->Ja1->Prop):Prop :=
 ∀ ρ a w,Rep ρ nt tm mem a w->∀ QQ:Exit->Act->World->Prop,(∀ ρ' tm' mem' a' w',Rep ρ' nt tm' mem' a' w'->Step mem ρ w mem' ρ' w'->a'.defers=a.defers->K tm' mem'->QQ .normal a' w') ->
  ∀ σ,Lin ops.toArray σ->(∀ p,p ∈ ext->bef σ p.1 p.2)->wpOps P ops.toArray QQ σ a w
theorem AW.drawX {id:Nat}{l:List Oper}{Q:Exit->Tm->Ja1->Prop}(hf:P.follows .mixedOrders=true)(hb:Xc0 l=true)(h:DX P nt l [] tm mem (Q .normal)):AW P nt (.region id l.toArray true) tm mem Q:=by
 intro ρ a w hr
 refine wp_region_draw fun t=>?_
 simp only [Region.schedule,hf,Bool.true_or,if_true]
 exact h ρ a _ hr.drew _ (fun ρ' tm' mem' a' w' r s d k=>⟨ρ',tm',mem',r,⟨s.os,s.tape,s.output,s.size,s.len,s.ext,s.kind,s.ro,s.frame,s.fresh⟩,d,k⟩) _ (Xi6 (Qh8 hb) t) (fun p hp=>by cases hp)
theorem DX.split {l:List Oper}{ext:List (Nat × Nat)}{K:Tm->Ja1->Prop}(i j:Nat)(hn:i≠j/\i<l.length/\j<l.length)(h1:DX P nt l ((i,j)::ext) tm mem K)(h2:DX P nt l ((j,i)::ext) tm mem K):DX P nt l ext tm mem K:=by
 intro ρ a w hr QQ hQ σ hl he
 obtain ⟨hne,hi,hj⟩:=hn
 have hmi:i ∈ σ:=(hl.all i).2 (by simpa using hi)
 have hmj:j ∈ σ:=(hl.all j).2 (by simpa using hj)
 have hneq:σ.idxOf i≠σ.idxOf j:=fun e=>by
  have e1:=Jr1 hmi
  have e2:=Jr1 hmj
  rw [e,e2] at e1
  injection e1 with e1
  exact hne e1.symm
 rcases Nat.lt_or_ge (σ.idxOf i) (σ.idxOf j) with h|h
 ·exact h1 ρ a w hr QQ hQ σ hl fun p hp=>by
   rcases List.mem_cons.1 hp with rfl|hp
   ·exact h
   ·exact he p hp
 ·exact h2 ρ a w hr QQ hQ σ hl fun p hp=>by
   rcases List.mem_cons.1 hp with rfl|hp
   ·unfold bef;simp only;omega
   ·exact he p hp
def dxOk (nt:Nat)(l:List Oper)(π:List Nat)(ext:List (Nat × Nat))(l':List Oper)(pl:List Plan):Bool :=
 Jy7 l.length π&&Xc0 l&&ext.all (fun p=>decide (p.1<l.length))&&decide (pl.length=l'.length)&&Jv7 nt (l'.zip pl)
theorem DX.run {l l':List Oper}{ext:List (Nat × Nat)}{K:Tm->Ja1->Prop}(π:List Nat)(pl:List Plan)(hl':Jo3 l π ext=l')(hok:dxOk nt l π ext l' pl=true)
  (h:Je5 P l'.toArray (l'.zip pl) tm mem [mem] [] K):DX P nt l ext tm mem K:=by
 intro ρ a w hr QQ hQ σ hl he
 subst hl'
 simp only [dxOk,Bool.and_eq_true,List.all_eq_true,decide_eq_true_eq] at hok
 obtain ⟨⟨⟨⟨h1,h2⟩,h3⟩,h4⟩,h5⟩:=hok
 have hlt:∀ k,k ∈ σ->k<l.length:=fun k hk=>by simpa using (hl.all k).1 hk
 refine Kn0 (ext:=ext) h1 σ hlt a w ?_
 have hlin:=hl.perm h1 (fun p hp=>⟨he p hp,h3 p hp⟩) (Qh8 h2)
 have he':(Jo3 l π ext).toArray=Jg3 ((Jo3 l π ext).zip pl):=by
  unfold Jg3
  rw [show (fun x:Oper × Plan=>x.1)=Prod.fst from rfl,List.map_fst_zip (by omega)]
 have hs:=Kk6 (P:=P) h5 (by rw [he'] at h;exact h) hr (Q:=QQ) hQ
 rw [<-he'] at hs
 refine Qp6 hlin (σ.map fun k=>π.idxOf k) [] _ _ a w rfl (by simp) (fun k hk=>?_) ?_ hs
 ·simp only [Array.getD_eq_getD_getElem?,Array.getElem?_replicate]
  rw [if_pos hk];rfl
 ·have hperm:∀ (n:Nat) (τ:List Nat),τ.Nodup->(∀ k,k ∈ τ->k<n)->τ.length<=n:=by
   intro n
   induction n with
   | zero=>intro τ _ hk;cases τ with
    | nil=>simp
    | cons x τ=>exact absurd (hk x List.mem_cons_self) (by omega)
   | succ n ih =>
    intro τ hnd hk
    have h6:(τ.erase n).length<=n:=ih _ (hnd.erase n) fun k hk'=>by
     have hkm:=List.mem_of_mem_erase hk'
     have:=hk k hkm
     have:k≠n:=fun e=>by subst e;exact (List.Nodup.not_mem_erase hnd) hk'
     omega
    have:=List.length_erase (a:=n) (l:=τ)
    split at this<;>omega
  exact hperm _ _ hlin.nd fun k hk=>(hlin.all k).1 hk
end
section
variable {P:Program}{nt:Nat}{tm:Tm}{mem:Ja1}{Q:Exit->Tm->Ja1->Prop}
end
section
variable (P:Program)(call:Qi3)(pls:Nat->List Plan)(nt L:Nat)(jump:Code->Tm->Ja1->Option (Exit × Tm × Ja1))
end
section
variable {P:Program}{call:Qi3}{pls:Nat->List Plan}{nt L:Nat}
end
variable {P:Program}{nt:Nat}{tm:Tm}{mem:Ja1}
theorem All2.take_left {α β:Type}{R:α->β->Prop}:∀ {xa:List α} {bs:List β} (k:Nat),All2 R xa bs->∃ xs sp,bs=xs++sp/\All2 R (xa.take k) xs
 | xa,bs,0,_=>⟨[],bs,rfl,by rw [List.take_zero];trivial⟩
 | [],[],_+1,_=>⟨[],[],rfl,trivial⟩
 | a::xa,b::bs,k+1,h=>by
  obtain ⟨xs,sp,e,h2⟩:=All2.take_left k h.2
  exact ⟨b::xs,sp,by rw [e];rfl,h.1,h2⟩
theorem BlkR.cut {ρ:Env}{w:World}{r:Nat}{b:Blk}(hb:BlkR ρ w r b)(hk:b.kind=.grow)(k:Nat):BlkR ρ w r { b with cells:=b.cells.take k }:=by
 obtain ⟨kind,ty,ver,esz,cells⟩:=b
 simp only at hk
 subst hk
 rcases hb with ⟨h1,h2⟩|⟨n,c,cap,xs,sp,h1,h2,h3,h4,h5,h6⟩
 ·simp only at h1;subst h1;exact .inl ⟨by simp,h2⟩
 ·obtain ⟨ys,tp,e,h7⟩:=All2.take_left k h6
  exact .inr ⟨n,c,cap,ys,tp++sp,h1,h2,h3,h4,by rw [h5,e,List.append_assoc],h7⟩
theorem AW.cut {c:Code}{Q:Exit->Tm->Ja1->Prop}(r k:Nat){b:Blk}(hb:mem[r]?=some b)(hk:b.kind=.grow)
  (h:AW P nt c tm (mem.set r { b with cells:=b.cells.take k }) Q):AW P nt c tm mem Q:=by
 intro ρ a w hr
 have hrl:=(List.getElem?_eq_some_iff.1 hb).1
 have hgt:∀ {s:Nat} {d:Blk},(mem.set r { b with cells:=b.cells.take k })[s]?=some d->(s≠r/\mem[s]?=some d)\/(s=r/\d={ b with cells:=b.cells.take k }):=by
  intro s d hd
  by_cases hs:s=r
  ·subst hs;rw [List.getElem?_set_self hrl] at hd;injection hd with hd;exact .inr ⟨rfl,hd.symm⟩
  ·rw [List.getElem?_set_ne (fun e=>hs e.symm)] at hd;exact .inl ⟨hs,hd⟩
 have hold:∀ {s:Nat} {d:Blk},(mem.set r { b with cells:=b.cells.take k })[s]?=some d->∃ d0,mem[s]?=some d0/\d0.kind=d.kind/\d0.ver=d.ver/\(d.kind=.ro->d0=d):=by
  intro s d hd
  rcases hgt hd with ⟨_,h1⟩|⟨e1,e2⟩
  ·exact ⟨d,h1,rfl,rfl,fun _=>rfl⟩
  ·subst e1;subst e2;exact ⟨b,hb,rfl,rfl,fun h=>by rw [hk] at h;cases h⟩
 have hm:RepM ρ (mem.set r { b with cells:=b.cells.take k }) w:=by
  refine ⟨fun s d hd=>?_,fun s v hs=>hr.mem.dom s v (by simpa using hs),fun s d v hd hv=>?_,fun s t d e hd he hne hkd hke x y i j hx hy=>?_⟩
  ·rcases hgt hd with ⟨_,h1⟩|⟨e1,e2⟩
   ·exact hr.mem.blk s d h1
   ·subst e1;subst e2;exact (hr.mem.blk s b hb).cut hk k
  ·obtain ⟨d0,h1,_,h3,_⟩:=hold hd
   exact hr.mem.domv s d0 v h1 (by omega)
  ·obtain ⟨d0,h1,h2,h3,_⟩:=hold hd
   obtain ⟨e0,g1,g2,g3,g4⟩:=hold he
   refine hr.mem.sep s t d0 e0 h1 g1 hne (by rw [h2];exact hkd) (fun hro=>?_) x y i j (by rw [h3];exact hx) (by rw [g3];exact hy)
   rw [g4 (by rw [<-g2];exact hro)];exact hke (by rw [<-g2];exact hro)
 refine wp_mono (h ρ a w ⟨hr.size,hr.tm,hm⟩) ?_
 rintro e a' w' ⟨ρ2,tm2,mem2,hr2,hs2,hd,hq⟩
 refine ⟨ρ2,tm2,mem2,hr2,?_,hd,hq⟩
 refine ⟨hs2.os,hs2.tape,hs2.output,hs2.size,by have:=hs2.len;simpa using this,fun s hs v x hx=>hs2.ext s (by simpa using hs) v x hx,fun s d d' h1 h2=>?_,fun s d' h1 h2=>?_,fun n hn hne=>?_,fun s d' x i h1 h2 h3=>?_⟩
 ·by_cases hs:s=r
  ·subst hs
   rw [hb] at h1;injection h1 with h1;subst h1
   exact hs2.kind s { b with cells:=b.cells.take k } d' (List.getElem?_set_self hrl) h2
  ·exact hs2.kind s d d' (by rw [List.getElem?_set_ne (fun e=>hs e.symm)];exact h1) h2
 ·have:=hs2.ro s d' h1 h2
  rcases hgt this with ⟨_,h3⟩|⟨e1,e2⟩
  ·exact h3
  ·subst e2;rw [hk] at h2;cases h2
 ·refine hs2.frame n hn fun s d x i h1 h2 h3=>?_
  obtain ⟨d0,g1,g2,g3,_⟩:=hold h1
  exact hne s d0 x i g1 (by rw [g2];exact h2) (by rw [g3];exact h3)
 ·rcases hs2.fresh s d' x i h1 h2 h3 with h|⟨t,d,y,l,h1,h2,h3,h4⟩
  ·exact .inl h
  ·obtain ⟨d0,g1,g2,g3,_⟩:=hold h1
   exact .inr ⟨t,d0,y,l,g1,by rw [g2];exact h2,by rw [g3];exact h3,h4⟩
variable {P:Program}
variable {nt:Nat}{tm:Tm}{mem:Ja1}
end Go.Eng
set_option maxRecDepth 100000
set_option maxHeartbeats 4000000
namespace Go.Proofs.YtaannomfigammaaGreat
open Go Go.Eng
def Ja2 (n:Int):Int:=if 2147483648<n then 2147483648 else if n < -2147483648 then -2147483648 else n
theorem Jc3 (n:Int):-2147483648<=Ja2 n/\Ja2 n<=2147483648:=by unfold Ja2;split<;>(try split)<;>omega
theorem Jc1 {n:Int}(h:-2147483648<=n/\n<=2147483648):Ja2 n=n:=by unfold Ja2;split<;>(try split)<;>omega
theorem wi {x:Int}(h:-9223372036854775808<=x/\x<=9223372036854775807):IntKind.i64.wrap x=x:=by rw [IntKind.wrap_i64];omega
theorem Qk9 {x y A B:Int}(hx:-A<=x/\x<=A)(hy:-B<=y/\y<=B):-(A*B)<=x*y/\x*y<=A*B:=by
 have h1:x.natAbs<=A.toNat:=by omega
 have h2:y.natAbs<=B.toNat:=by omega
 have h3:=Nat.mul_le_mul h1 h2
 rw [<-Int.natAbs_mul] at h3
 have h4:((A.toNat*B.toNat:Nat):Int)=A*B:=by
  rw [Int.natCast_mul,Int.toNat_of_nonneg (by omega),Int.toNat_of_nonneg (by omega)]
 omega
theorem Qf6 (a b:Int):-4611686018427387904<=Ja2 a*Ja2 b/\Ja2 a*Ja2 b<=4611686018427387904:=Qk9 (A:=2147483648) (B:=2147483648) (by have:=Jc3 a;omega) (by have:=Jc3 b;omega)
theorem Js1 (n:Int)(m:Ja1):Ctr Tryz.prog 190 [.one (.int .i64 n)] m (.one (.int .i64 (Ja2 n))) m:=by
 refine Ctr.en Tryz.func190 [.tmp 2] 10 fun hwf Q hQ=>?_
 refine AW.w 4 Tru Tru fun K J0=>?_
 refine AW.cond rfl (fun h3=>?_) (fun h3=>?_)
 ·have hr:Ja2 n=2147483648:=by have:=of_decide_eq_true h3;unfold Ja2;rw [if_pos this]
  exact AW.f Tru Tru hr
 refine AW.c 1 Tru Tru ?_
 refine AW.cond rfl (fun h6=>?_) (fun h6=>?_)
 ·have hr:Ja2 n=-2147483648:=by have h0:=of_decide_eq_false h3;have:=of_decide_eq_true h6;unfold Ja2;rw [if_neg h0,if_pos this]
  exact AW.f Tru Tru hr
 have hr:Ja2 n=n:=by have h0:=of_decide_eq_false h3;have:=of_decide_eq_false h6;unfold Ja2;rw [if_neg h0,if_neg this]
 exact AW.f Tru Tru hr
theorem Qy3 (n:Int)(m:Ja1):Ctr Tryz.prog 191 [.one (.int .i64 n)] m (.one (.int .i64 (Ja2 n))) m:=by
 have hw:IntKind.i64.wrap (Ja2 n)=Ja2 n:=wi (by have:=Jc3 n;omega)
 exact Ctr.f Tryz.func191 [.tmp 2] 5 hw (Js1 n)
theorem Jh4 (n:Int)(m:Ja1):Ctr Tryz.prog 158 [.one (.int .i64 n)] m (.one (.int .i64 (Ja2 n))) m:=by
 refine Ctr.en Tryz.func158 [.tmp 2] 8 fun hwf Q hQ=>?_
 refine AW.w 3 Tru Tru fun K J0=>?_
 refine AW.cond rfl (fun h4=>?_) (fun h4=>?_)
 ·have hr:Ja2 n=2147483648:=by have:=of_decide_eq_true h4;unfold Ja2;rw [if_pos this]
  exact AW.f Tru Tru hr
 refine AW.w 4 Tru Tru fun K J0=>?_
 refine AW.cond rfl (fun h6=>?_) (fun h6=>?_)
 ·have hr:Ja2 n=-2147483648:=by have h0:=of_decide_eq_false h4;have:=of_decide_eq_true h6;unfold Ja2;rw [if_neg h0,if_pos this]
  exact AW.f Tru Tru hr
 have hr:Ja2 n=n:=by have h0:=of_decide_eq_false h4;have:=of_decide_eq_false h6;unfold Ja2;rw [if_neg h0,if_neg this]
 exact AW.f Tru Tru hr
theorem Kp6 {n d:Int}(hd:0<d):(n.tmod d=n%d/\(0<=n\/n%d=0))\/(n<0/\¬n%d=0/\n.tmod d=n%d - d):=by
 rcases Classical.em (n<0) with h|h
 ·have e:n.tmod d=-((-n)%d):=by rw [<-Int.tmod_eq_emod_of_nonneg (by omega),Int.neg_tmod,Int.neg_neg]
  rw [e,Int.neg_emod]
  split
  ·rename_i hn
   have:=Int.emod_eq_zero_of_dvd hn
   exact .inl ⟨by omega,.inr this⟩
  rename_i hn
  have h0:¬n%d=0:=fun h0=>hn (Int.dvd_of_emod_eq_zero h0)
  have:(d.natAbs:Int)=d:=by omega
  exact .inr ⟨h,h0,by omega⟩
 exact .inl ⟨Int.tmod_eq_emod_of_nonneg (by omega),.inl (by omega)⟩
theorem Vm1 {n d:Int}(hd:0<d){r:Int}(hr:r=n%d):(n - r).tdiv d=n / d:=by
 subst hr
 have h1:=Int.emod_add_mul_ediv n d
 have e:n - n%d=d*(n / d):=by omega
 rw [e,Int.mul_tdiv_cancel_left _ (by omega)]
theorem Kj7 {n d:Int}(hd:0<d){A:Int}(h:-A<=n/\n<=A):-A<=n / d/\n / d<=A:=by
 have h1:=Int.emod_add_mul_ediv n d
 have h2:=Int.emod_nonneg n (b:=d) (by omega)
 have h3:=Int.emod_lt_of_pos n hd
 constructor
 ·exact Int.le_ediv_of_mul_le hd (by have:=Int.mul_le_mul_of_nonneg_left (show (1:Int)<=d by omega) (show 0<=A by omega);have e:-A*d=-(A*d):=Int.neg_mul _ _;omega)
 exact Int.ediv_le_of_le_mul hd (by have:=Int.mul_le_mul_of_nonneg_left (show (1:Int)<=d by omega) (show 0<=A by omega);omega)
theorem Kp1 (n d:Int)(m:Ja1)(hd:0<d)(hb:-4611686018427387904<=n/\n<=4611686018427387904)(hb2:d<=4611686018427387904):Ctr Tryz.prog 160 [.one (.int .i64 n),.one (.int .i64 d)] m (.one (.int .i64 (n / d))) m:=by
 refine Ctr.en Tryz.func160 [.tmp 4] 19 fun hwf Q hQ=>?_
 have hm:=Kp6 (n:=n) hd
 have h2:=Int.emod_nonneg n (b:=d) (by omega)
 have h3:=Int.emod_lt_of_pos n hd
 have hd0:¬d=0:=by omega
 have hdiv:=@Vm1 n d hd
 have hqb:=Kj7 (n:=n) hd hb
 have hwq:IntKind.i64.wrap (n / d)=n / d:=wi (by omega)
 generalize htm:n.tmod d=r at *
 have hq1:(n - n%d).tdiv d=n / d:=hdiv rfl
 have hw0:IntKind.i64.wrap (n - n%d)=n - n%d:=wi (by omega)
 have U1:=ca3 htm hd0 hwq
 refine AW.w 4 U1 Tru fun K J0=>?_
 refine AW.cond rfl (fun h10=>?_) (fun h10=>?_)
 ·have hneg:=of_decide_eq_true h10
  have er:r=n%d - d:=by omega
  have hw1:IntKind.i64.wrap (r+d)=n%d:=by rw [wi (by omega)];omega
  have U2:=ca4 U1 hw1 hw0 hq1
  exact AW.f U2 Tru
 have hneg:=of_decide_eq_false h10
 have er:r=n%d:=by omega
 subst er
 refine AW.w 2 Tru Tru ?_
 have U3:=ca3 U1 hw0 hq1
 exact AW.f U3 Tru
def Jh7 (n d:Int):Int:=if 0<d then n / d else (-n) / (-d)
theorem Kw5 {n d:Int}(hd:0<d):n.tdiv d=(if n.tmod d≠0/\n<0 then n / d+1 else n / d):=by
 have h0:=Int.tmod_add_mul_tdiv n d
 have h1:=Int.emod_add_mul_ediv n d
 have hm:=Kp6 (n:=n) hd
 have h2:=Int.emod_nonneg n (b:=d) (by omega)
 have h3:=Int.emod_lt_of_pos n hd
 have key:∀ a b:Int,d*a=d*b->a=b:=fun a b h=>Int.eq_of_mul_eq_mul_left (by omega) h
 split
 ·rename_i hc
  refine key _ _ ?_
  rw [Int.mul_add,Int.mul_one]
  omega
 rename_i hc
 refine key _ _ ?_
 omega
theorem Qg2 {n d:Int}(hd:d≠0):Jh7 n d=(if n.tmod d≠0/\(decide (n<0) !=decide (d<0))=true then n.tdiv d - 1 else n.tdiv d):=by
 unfold Jh7
 rcases Classical.em (0<d) with h|h
 ·rw [if_pos h]
  have h1:=Kw5 (n:=n) h
  have h2:decide (d<0)=false:=decide_eq_false (by omega)
  rw [h2]
  rcases Classical.em (n.tmod d=0) with h5|h5
  ·rw [if_neg (fun hc=>hc.1 h5),h1,if_neg (fun hc=>hc.1 h5)]
  rcases Classical.em (n<0) with h4|h4
  ·rw [if_pos ⟨h5,by rw [decide_eq_true h4];rfl⟩,h1,if_pos ⟨h5,h4⟩];omega
  rw [if_neg (by rw [decide_eq_false h4];exact fun hc=>by cases hc.2),h1,if_neg (fun hc=>h4 hc.2)]
 rw [if_neg h]
 have h0:0 < -d:=by omega
 have h1:=Kw5 (n:=-n) h0
 have h2:decide (d<0)=true:=decide_eq_true (by omega)
 have e1:(-n).tdiv (-d)=n.tdiv d:=by rw [Int.neg_tdiv,Int.tdiv_neg,Int.neg_neg]
 have e2:(-n).tmod (-d)=-(n.tmod d):=by rw [Int.neg_tmod,Int.tmod_neg]
 rw [e1,e2] at h1
 rw [h2]
 rcases Classical.em (n.tmod d=0) with h5|h5
 ·rw [if_neg (fun hc=>hc.1 h5),h1,if_neg (fun hc=>hc.1 (by omega))]
 have h6:¬n=0:=fun e=>by subst e;simp at h5
 rcases Classical.em (n<0) with h4|h4
 ·rw [if_neg (by rw [decide_eq_true h4];exact fun hc=>by cases hc.2),h1,if_neg (by omega)]
 rw [if_pos ⟨h5,by rw [decide_eq_false h4];rfl⟩,h1,if_pos ⟨by omega,by omega⟩];omega
theorem Qz4 {n d:Int}(hd:d≠0){A:Int}(h:-A<=n/\n<=A):-A<=Jh7 n d/\Jh7 n d<=A:=by
 unfold Jh7;split
 ·rename_i hp;exact Kj7 hp h
 exact Kj7 (by omega) (by omega)
theorem Vn5 (x:Int)(i:Nat)(hi:i<=62):bits .and .i64 x ((2:Int) ^ i - 1)=x%(2:Int) ^ i:=by
 have hp:(2:Nat) ^ i<=2 ^ 62:=Nat.pow_le_pow_right (by decide) hi
 have hp0:0<(2:Nat) ^ i:=Nat.pos_of_ne_zero (by simp)
 have hc:((2:Int) ^ i)=((2 ^ i:Nat):Int):=by simp
 have e1:(BitVec.ofInt 64 ((2:Int) ^ i - 1)).toNat=2 ^ i - 1:=by
  rw [BitVec.toNat_ofInt,hc]
  have:(((2 ^ i:Nat):Int) - 1)%((2 ^ 64:Nat):Int)=((2 ^ i:Nat):Int) - 1:=Int.emod_eq_of_lt (by omega) (by omega)
  rw [this];omega
 have e0:bits .and .i64 x ((2:Int) ^ i - 1)=IntKind.i64.wrap (((BitVec.ofInt 64 x &&& BitVec.ofInt 64 ((2:Int) ^ i - 1)).toNat:Nat):Int):=rfl
 rw [e0,BitVec.toNat_and,e1,Nat.and_two_pow_sub_one_eq_mod,BitVec.toNat_ofInt]
 have h1:(((x%((2 ^ 64:Nat):Int)).toNat%2 ^ i:Nat):Int)=x%(2:Int) ^ i:=by
  rw [Int.natCast_emod,Int.toNat_of_nonneg (Int.emod_nonneg _ (by simp)),hc]
  refine Int.emod_emod_of_dvd _ ?_
  exact_mod_cast Nat.pow_dvd_pow 2 (show i<=64 by omega)
 rw [h1]
 have h2:=Int.emod_nonneg x (b:=(2:Int) ^ i) (by omega)
 have h3:=Int.emod_lt_of_pos x (b:=(2:Int) ^ i) (by omega)
 exact wi (by omega)
theorem Vn4 (x:Int):bits .and .i64 x 65535=x%65536:=Vn5 x 16 (by decide)
theorem Vz1 (n d:Int)(m:Ja1)(hd:d≠0)(hb:-4611686018427387904<=n/\n<=4611686018427387904)(h0:(n.tmod d !=0)=false):Ctr Tryz.prog 192 [.one (.int .i64 n),.one (.int .i64 d)] m (.one (.int .i64 (Jh7 n d))) m:=by
 have he:=Qg2 (n:=n) hd
 have hfb:=Qz4 (n:=n) hd hb
 have hw1:IntKind.i64.wrap (Jh7 n d)=Jh7 n d:=wi (by omega)
 have hw0:IntKind.i64.wrap (n.tdiv d)=n.tdiv d:=by
   refine wi ?_
   rw [he] at hfb
   split at hfb<;>omega
 have hr:Jh7 n d=n.tdiv d:=by
   rw [if_neg (fun hc=>hc.1 (by simpa using h0))] at he;exact he
 have U1:=ca3 hd hw0 h0
 exact Ctr.f Tryz.func192 [.tmp 4] 23 U1 Tru hr
theorem Vj5 (n d:Int)(m:Ja1)(hd:d≠0)(hb:-4611686018427387904<=n/\n<=4611686018427387904)(h0:(n.tmod d !=0)=true):Ctr Tryz.prog 192 [.one (.int .i64 n),.one (.int .i64 d)] m (.one (.int .i64 (Jh7 n d))) m:=by
 refine Ctr.en Tryz.func192 [.tmp 4] 23 fun hwf Q hQ=>?_
 have he:=Qg2 (n:=n) hd
 have hfb:=Qz4 (n:=n) hd hb
 have hw1:IntKind.i64.wrap (Jh7 n d)=Jh7 n d:=wi (by omega)
 have hw0:IntKind.i64.wrap (n.tdiv d)=n.tdiv d:=by
   refine wi ?_
   rw [he] at hfb
   split at hfb<;>omega
 have hnz:n.tmod d≠0:=by simpa using h0
 have U2:=ca3 hd hw0 h0
 refine AW.w 4 U2 Tru fun K J0=>?_
 refine AW.cond rfl (fun h19=>?_) (fun h19=>?_)
 ·have hr:IntKind.i64.wrap (n.tdiv d - 1)=Jh7 n d:=by
    rw [if_pos ⟨hnz,h19⟩] at he;rw [<-he];exact hw1
  have U3:=ca2 U2 hr
  exact AW.f U3 Tru hr
 have hr:Jh7 n d=n.tdiv d:=by
   rw [if_neg (fun hc=>by have h2:=hc.2;unfold bne at h2;rw [h19] at h2;cases h2)] at he;exact he
 exact AW.f U2 Tru hr
theorem Vz2 (n d:Int)(m:Ja1)(hd:d≠0)(hb:-4611686018427387904<=n/\n<=4611686018427387904):Ctr Tryz.prog 192 [.one (.int .i64 n),.one (.int .i64 d)] m (.one (.int .i64 (Jh7 n d))) m:=by
 cases h0:(n.tmod d !=0)
 ·exact Vz1 n d m hd hb h0
 exact Vj5 n d m hd hb h0
def Jd0 (a b:Int):Int:=Ja2 (Ja2 a+Ja2 b)
def Jf3 (a b:Int):Int:=Ja2 (Ja2 a - Ja2 b)
def Jh5 (a:Int):Int:=if Ja2 a<0 then -Ja2 a else Ja2 a
def ofI (n:Int):Int:=if 32768<n then 2147483648 else if n < -32768 then -2147483648 else n*65536
def Jd2 (a b:Int):Int:=Ja2 (Ja2 a*Ja2 b / 65536)
def Jg9 (a b:Int):Int:=if Ja2 b=0 then (if 0<Ja2 a then 2147483648 else if Ja2 a<0 then -2147483648 else 0) else Ja2 (Jh7 (Ja2 a*65536) (Ja2 b))
def Jb8 (a:Int):Int:=if a<0 then 0 else if 65536<a then 65536 else a
def Jd5 (a b t:Int):Int:=Ja2 (Ja2 a+(Ja2 b - Ja2 a)*Jb8 t / 65536)
theorem Jv6 (t:Int):0<=Jb8 t/\Jb8 t<=65536:=by unfold Jb8;split<;>(try split)<;>omega
theorem Qi0 (a b:Int):Jd0 a b=(Ja2 (Ja2 a+Ja2 b)):=rfl
theorem Qc2 (a b:Int):Jf3 a b=(Ja2 (Ja2 a - Ja2 b)):=rfl
theorem Kb9 (a b:Int)(m:Ja1):Ctr Tryz.prog 117 [.one (.int .i64 a),.one (.int .i64 b)] m (.one (.int .i64 (Jd0 a b))) m:=by
 have ha:=Jc3 a
 have hb:=Jc3 b
 have hw:IntKind.i64.wrap (Ja2 a+Ja2 b)=Ja2 a+Ja2 b:=wi (by omega)
 exact Ctr.f Tryz.func117 [.tmp 4] 11 hw (ca2 Qy3 Js1) (ca2 @Qi0 @Qc2)
theorem Vp3 (a b:Int)(m:Ja1):Ctr Tryz.prog 143 [.one (.int .i64 a),.one (.int .i64 b)] m (.one (.int .i64 (Jd0 a b))) m:=by
 have ha:=Jc3 a
 have hb:=Jc3 b
 have hw:IntKind.i64.wrap (Ja2 a+Ja2 b)=Ja2 a+Ja2 b:=wi (by omega)
 exact Ctr.f Tryz.func143 [.tmp 4] 11 hw Jh4 (ca2 @Qi0 @Qc2)
theorem Kd5 (a b:Int)(m:Ja1):Ctr Tryz.prog 116 [.one (.int .i64 a),.one (.int .i64 b)] m (.one (.int .i64 (Jf3 a b))) m:=by
 have ha:=Jc3 a
 have hb:=Jc3 b
 have hw:IntKind.i64.wrap (Ja2 a - Ja2 b)=Ja2 a - Ja2 b:=wi (by omega)
 exact Ctr.f Tryz.func116 [.tmp 4] 11 hw (ca2 Qy3 Js1) (ca2 @Qi0 @Qc2)
theorem Vp1 (a b:Int)(m:Ja1):Ctr Tryz.prog 141 [.one (.int .i64 a),.one (.int .i64 b)] m (.one (.int .i64 (Jf3 a b))) m:=by
 have ha:=Jc3 a
 have hb:=Jc3 b
 have hw:IntKind.i64.wrap (Ja2 a - Ja2 b)=Ja2 a - Ja2 b:=wi (by omega)
 exact Ctr.f Tryz.func141 [.tmp 4] 11 hw Jh4 (ca2 @Qi0 @Qc2)
theorem Vx2 (a:Int)(m:Ja1):Ctr Tryz.prog 234 [.one (.int .i64 a)] m (.one (.int .i64 (-Ja2 a))) m:=by
 have ha:=Jc3 a
 have hn:Ja2 (-Ja2 a)=-Ja2 a:=Jc1 (by omega)
 have hw:IntKind.i64.wrap (-Ja2 a)=-Ja2 a:=wi (by omega)
 have U1:=ca2 @Int.zero_sub hw
 exact Ctr.f Tryz.func234 [.tmp 2] 7 U1 (ca2 Qy3 Js1) hn
theorem Ji6 (a:Int)(m:Ja1):Ctr Tryz.prog 225 [.one (.int .i64 a)] m (.one (.int .i64 (Jh5 a))) m:=by
 have ha:=Jc3 a
 have hn:Ja2 (Eng.maxI (Ja2 a) (-Ja2 a))=Jh5 a:=by
   rw [Jc1 (by unfold Eng.maxI;split<;>omega)];unfold Eng.maxI Jh5;split<;>split<;>omega
 have hw:IntKind.i64.wrap (-Ja2 a)=-Ja2 a:=wi (by omega)
 have U2:=ca2 @Int.zero_sub hw
 exact Ctr.f Tryz.func225 [.tmp 2] 10 U2 (ca2 Qy3 Js1) hn
theorem of_c (a:Int)(m:Ja1):Ctr Tryz.prog 114 [.one (.int .i64 a)] m (.one (.int .i64 (ofI a))) m:=by
 have hm:-1048576<=Eng.maxI (-1048576) (Eng.minI a 1048576)/\Eng.maxI (-1048576) (Eng.minI a 1048576)<=1048576:=by
   unfold Eng.maxI Eng.minI;split<;>split at *<;>omega
 have hn:Ja2 (Eng.maxI (-1048576) (Eng.minI a 1048576)*65536)=ofI a:=by
   unfold Eng.maxI Eng.minI Ja2 ofI;(repeat' split)<;>omega
 have hw0:IntKind.i64.wrap (Eng.maxI (-1048576) (Eng.minI a 1048576))=Eng.maxI (-1048576) (Eng.minI a 1048576):=wi (by omega)
 have hw:IntKind.i64.wrap (Eng.maxI (-1048576) (Eng.minI a 1048576)*65536)=Eng.maxI (-1048576) (Eng.minI a 1048576)*65536:=wi (by omega)
 have U3:=ca2 hw0 hw
 exact Ctr.f Tryz.func114 [.tmp 2] 8 U3 Js1 hn
theorem Qv2:(2:Int) ^ min 16 IntKind.i64.bits=65536:=by decide
theorem Vt8 (x:Int):x.fdiv 65536=x / 65536:=Int.fdiv_eq_ediv_of_nonneg _ (by decide)
theorem Vp7 (a b:Int):Jd2 a b=(Ja2 (Ja2 a*Ja2 b / 65536)):=rfl
theorem Jm1 (a b:Int)(m:Ja1):Ctr Tryz.prog 121 [.one (.int .i64 a),.one (.int .i64 b)] m (.one (.int .i64 (Jd2 a b))) m:=by
 have ha:=Jc3 a
 have hb:=Jc3 b
 have hm:=Qf6 a b
 have hq:=Kj7 (n:=Ja2 a*Ja2 b) (d:=65536) (A:=4611686018427387904) (by decide) (by omega)
 have hw:IntKind.i64.wrap (Ja2 a*Ja2 b)=Ja2 a*Ja2 b:=wi (by omega)
 have hw2:IntKind.i64.wrap (Ja2 a*Ja2 b / 65536)=Ja2 a*Ja2 b / 65536:=wi (by omega)
 have U5:=ca4 hw hw2 @Qv2 @Vt8
 exact Ctr.f Tryz.func121 [.tmp 4] 12 U5 (ca2 Qy3 Js1) @Vp7
theorem Kn9 (a b:Int)(m:Ja1):Ctr Tryz.prog 147 [.one (.int .i64 a),.one (.int .i64 b)] m (.one (.int .i64 (Jd2 a b))) m:=by
 have ha:=Jc3 a
 have hb:=Jc3 b
 have hm:=Qf6 a b
 have hq:=Kj7 (n:=Ja2 a*Ja2 b) (d:=65536) (A:=4611686018427387904) (by decide) (by omega)
 have hw:IntKind.i64.wrap (Ja2 a*Ja2 b)=Ja2 a*Ja2 b:=wi (by omega)
 have hw2:IntKind.i64.wrap (Ja2 a*Ja2 b / 65536)=Ja2 a*Ja2 b / 65536:=wi (by omega)
 have U6:=ca2 hw hw2
 exact Ctr.f Tryz.func147 [.tmp 4] 12 U6 (ca2 Jh4 (Kp1 (Ja2 a*Ja2 b) 65536 _ (by decide) (by omega) (by decide))) @Vp7
theorem Ju0 (a b:Int)(m:Ja1):Ctr Tryz.prog 115 [.one (.int .i64 a),.one (.int .i64 b)] m (.one (.int .i64 (Jg9 a b))) m:=by
 refine Ctr.en Tryz.func115 [.tmp 4] 25 fun hwf Q hQ=>?_
 have ha:=Jc3 a
 have hb:=Jc3 b
 have hs:IntKind.i64.wrap (Ja2 a*65536)=Ja2 a*65536:=wi (by omega)
 have U7:=ca2 @Qv2 hs
 refine AW.w 5 U7 Qy3 fun K J0=>?_
 refine AW.cond rfl (fun h11=>?_) (fun h11=>?_)
 ·have hd:Ja2 b≠0:=by simpa using h11
  have hr:Jg9 a b=Ja2 (Jh7 (Ja2 a*65536) (Ja2 b)):=by unfold Jg9;rw [if_neg hd]
  exact AW.f U7 (ca2 (Vz2 (Ja2 a*65536) (Ja2 b) _ hd (by omega)) Js1) hr
 refine AW.c 1 U7 Tru ?_
 refine AW.cond rfl (fun h19=>?_) (fun h19=>?_)
 ·have hd:Ja2 b=0:=by simpa using h11
  have hr:Jg9 a b=2147483648:=by have:=of_decide_eq_true h19;unfold Jg9;rw [if_pos hd,if_pos this]
  exact AW.f U7 Tru hr
 refine AW.c 1 U7 Tru ?_
 refine AW.cond rfl (fun h22=>?_) (fun h22=>?_)
 ·have hd:Ja2 b=0:=by simpa using h11
  have hr:Jg9 a b=-2147483648:=by have h0:=of_decide_eq_false h19;have:=of_decide_eq_true h22;unfold Jg9;rw [if_pos hd,if_neg h0,if_pos this]
  exact AW.f U7 Tru hr
 have hd:Ja2 b=0:=by simpa using h11
 have hr:Jg9 a b=0:=by have h0:=of_decide_eq_false h19;have:=of_decide_eq_false h22;unfold Jg9;rw [if_pos hd,if_neg h0,if_neg this]
 exact AW.f U7 Tru hr
theorem Qd4 (a b:Int)(m:Ja1):Ctr Tryz.prog 140 [.one (.int .i64 a),.one (.int .i64 b)] m (.one (.int .i64 (Jg9 a b))) m:=by
 refine Ctr.en Tryz.func140 [.tmp 4] 29 fun hwf Q hQ=>?_
 have ha:=Jc3 a
 have hb:=Jc3 b
 have hs:IntKind.i64.wrap (Ja2 a*65536)=Ja2 a*65536:=wi (by omega)
 have hn1:IntKind.i64.wrap (-Ja2 a)=-Ja2 a:=wi (by omega)
 have hn2:IntKind.i64.wrap (-Ja2 b)=-Ja2 b:=wi (by omega)
 have hn3:IntKind.i64.wrap (-Ja2 a*65536)=-Ja2 a*65536:=wi (by omega)
 have U8:=ca4 @Int.zero_sub hs hn1 (ca2 hn2 hn3)
 refine AW.w 5 U8 Jh4 fun K J0=>?_
 refine AW.cond rfl (fun h10=>?_) (fun h10=>?_)
 ·refine AW.w 2 U8 Tru fun K J1=>?_
  refine AW.cond rfl (fun h12=>?_) (fun h12=>?_)
  ·have hd:Ja2 b=0:=by simpa using h10
   have hr:Jg9 a b=2147483648:=by have:=of_decide_eq_true h12;unfold Jg9;rw [if_pos hd,if_pos this]
   exact AW.f U8 Tru hr
  refine AW.w 4 U8 Tru fun K J1=>?_
  refine AW.cond rfl (fun h14=>?_) (fun h14=>?_)
  ·have hd:Ja2 b=0:=by simpa using h10
   have hr:Jg9 a b=-2147483648:=by have h0:=of_decide_eq_false h12;have:=of_decide_eq_true h14;unfold Jg9;rw [if_pos hd,if_neg h0,if_pos this]
   exact AW.f U8 Tru hr
  have hd:Ja2 b=0:=by simpa using h10
  have hr:Jg9 a b=0:=by have h0:=of_decide_eq_false h12;have:=of_decide_eq_false h14;unfold Jg9;rw [if_pos hd,if_neg h0,if_neg this]
  exact AW.f U8 Tru hr
 refine AW.w 4 U8 Tru fun K J0=>?_
 refine AW.cond rfl (fun h16=>?_) (fun h16=>?_)
 ·have hd:Ja2 b≠0:=by simpa using h10
  have hlt:=of_decide_eq_true h16
  have hr:Jg9 a b=Ja2 (-Ja2 a*65536 / -Ja2 b):=by unfold Jg9 Jh7;rw [if_neg hd,if_neg (by omega),show -(Ja2 a*65536)=-Ja2 a*65536 by omega]
  exact AW.f U8 (ca2 (Kp1 (-Ja2 a*65536) (-Ja2 b) _ (by omega) (by omega) (by omega)) Jh4) hr
 have hd:Ja2 b≠0:=by simpa using h10
 have hlt:=of_decide_eq_false h16
 have hr:Jg9 a b=Ja2 (Ja2 a*65536 / Ja2 b):=by unfold Jg9 Jh7;rw [if_neg hd,if_pos (by omega)]
 exact AW.f U8 (ca2 (Kp1 (Ja2 a*65536) (Ja2 b) _ (by omega) (by omega) (by omega)) Jh4) hr
theorem Vs0 (a:Int)(m:Ja1):Ctr Tryz.prog 223 [.one (.int .i64 a)] m (.one (.int .i64 (Ja2 a / 65536))) m:=by
 have ha:=Jc3 a
 have hw:IntKind.i64.wrap (Ja2 a / 65536)=Ja2 a / 65536:=wi (by omega)
 have U9:=ca3 hw @Qv2 @Vt8
 exact Ctr.f Tryz.func223 [.tmp 2] 6 U9 Qy3
theorem Vp5 (a:Int)(m:Ja1):Ctr Tryz.prog 262 [.one (.int .i64 a)] m (.one (.int .i64 (Ja2 a%65536))) m:=by
 have ha:=Jc3 a
 have hw:IntKind.i64.wrap (Ja2 a%65536)=Ja2 a%65536:=wi (by omega)
 have U10:=ca2 hw @Vn4
 exact Ctr.f Tryz.func262 [.tmp 2] 6 U10 Qy3
theorem Kg0 (a:Int)(m:Ja1):Ctr Tryz.prog 118 [.one (.int .i64 a)] m (.one (.int .i64 (Jb8 a))) m:=by
 have hu:Eng.maxI 0 (Eng.minI a 65536)=Jb8 a:=by unfold Eng.maxI Eng.minI Jb8;(repeat' split)<;>omega
 exact Ctr.f Tryz.func118 [.tmp 2] 6 Tru Tru hu
theorem Qt3 (a:Int)(m:Ja1):Ctr Tryz.prog 144 [.one (.int .i64 a)] m (.one (.int .i64 (Jb8 a))) m:=by
 refine Ctr.en Tryz.func144 [.tmp 2] 8 fun hwf Q hQ=>?_
 refine AW.w 3 Tru Tru fun K J0=>?_
 refine AW.cond rfl (fun h4=>?_) (fun h4=>?_)
 ·have hr:Jb8 a=0:=by have:=of_decide_eq_true h4;unfold Jb8;rw [if_pos this]
  exact AW.f Tru Tru hr
 refine AW.w 4 Tru Tru fun K J0=>?_
 refine AW.cond rfl (fun h6=>?_) (fun h6=>?_)
 ·have hr:Jb8 a=65536:=by have h0:=of_decide_eq_false h4;have:=of_decide_eq_true h6;unfold Jb8;rw [if_neg h0,if_pos this]
  exact AW.f Tru Tru hr
 have hr:Jb8 a=a:=by have h0:=of_decide_eq_false h4;have:=of_decide_eq_false h6;unfold Jb8;rw [if_neg h0,if_neg this]
 exact AW.f Tru Tru hr
theorem Qx8 (a b t:Int):Jd5 a b t=(Ja2 (Ja2 a+(Ja2 b - Ja2 a)*Jb8 t / 65536)):=rfl
theorem Vq3 (a b t:Int)(m:Ja1):Ctr Tryz.prog 163 [.one (.int .i64 a),.one (.int .i64 b),.one (.int .i64 t)] m (.one (.int .i64 (Jd5 a b t))) m:=by
 have ha:=Jc3 a
 have hb:=Jc3 b
 have hu:=Jv6 t
 have hp:=Qk9 (x:=Ja2 b - Ja2 a) (y:=Jb8 t) (A:=4294967296) (B:=65536) (by omega) (by omega)
 have hq:=Kj7 (n:=(Ja2 b - Ja2 a)*Jb8 t) (d:=65536) (A:=281474976710656) (by decide) (by omega)
 have hk:-4294967296<=(Ja2 b - Ja2 a)*Jb8 t / 65536/\(Ja2 b - Ja2 a)*Jb8 t / 65536<=4294967296:=by omega
 have w1:IntKind.i64.wrap (Ja2 b - Ja2 a)=Ja2 b - Ja2 a:=wi (by omega)
 have w0:IntKind.i64.wrap (Jb8 t)=Jb8 t:=wi (by omega)
 have w2:IntKind.i64.wrap ((Ja2 b - Ja2 a)*Jb8 t)=(Ja2 b - Ja2 a)*Jb8 t:=wi (by omega)
 have w3:IntKind.i64.wrap ((Ja2 b - Ja2 a)*Jb8 t / 65536)=(Ja2 b - Ja2 a)*Jb8 t / 65536:=wi (by omega)
 have w4:IntKind.i64.wrap (Ja2 a+(Ja2 b - Ja2 a)*Jb8 t / 65536)=Ja2 a+(Ja2 b - Ja2 a)*Jb8 t / 65536:=wi (by omega)
 have U11:=ca4 w0 w1 w2 (ca4 w3 w4 @Qv2 @Vt8)
 exact Ctr.f Tryz.func163 [.tmp 6] 23 U11 (ca3 Qy3 Kg0 Js1) @Qx8
theorem Qu5 (a b t:Int)(m:Ja1):Ctr Tryz.prog 76 [.one (.int .i64 a),.one (.int .i64 b),.one (.int .i64 t)] m (.one (.int .i64 (Jd5 a b t))) m:=by
 have ha:=Jc3 a
 have hb:=Jc3 b
 have hu:=Jv6 t
 have hp:=Qk9 (x:=Ja2 b - Ja2 a) (y:=Jb8 t) (A:=4294967296) (B:=65536) (by omega) (by omega)
 have hq:=Kj7 (n:=(Ja2 b - Ja2 a)*Jb8 t) (d:=65536) (A:=281474976710656) (by decide) (by omega)
 have hk:-4294967296<=(Ja2 b - Ja2 a)*Jb8 t / 65536/\(Ja2 b - Ja2 a)*Jb8 t / 65536<=4294967296:=by omega
 have w1:IntKind.i64.wrap (Ja2 b - Ja2 a)=Ja2 b - Ja2 a:=wi (by omega)
 have w0:IntKind.i64.wrap (Jb8 t)=Jb8 t:=wi (by omega)
 have w2:IntKind.i64.wrap ((Ja2 b - Ja2 a)*Jb8 t)=(Ja2 b - Ja2 a)*Jb8 t:=wi (by omega)
 have w3:IntKind.i64.wrap ((Ja2 b - Ja2 a)*Jb8 t / 65536)=(Ja2 b - Ja2 a)*Jb8 t / 65536:=wi (by omega)
 have w4:IntKind.i64.wrap (Ja2 a+(Ja2 b - Ja2 a)*Jb8 t / 65536)=Ja2 a+(Ja2 b - Ja2 a)*Jb8 t / 65536:=wi (by omega)
 have U12:=ca4 w0 w1 w2 (ca2 w3 w4)
 exact Ctr.f Tryz.func76 [.tmp 6] 21 U12 (ca3 Jh4 Qt3 (Kp1 ((Ja2 b - Ja2 a)*Jb8 t) 65536 _ (by decide) (by omega) (by decide))) @Qx8
theorem Jc5 {a b:Int}(h:a<=b):Ja2 a<=Ja2 b:=by unfold Ja2;(repeat' split)<;>omega
theorem Jm2 (a b t:Int):∃ A u:Int,A=Ja2 a*(65536 - u)+Ja2 b*u/\u=Jb8 t/\Jd5 a b t=A / 65536/\(Ja2 a<=A / 65536/\A / 65536<=Ja2 b\/Ja2 b<=A / 65536/\A / 65536<=Ja2 a):=by
 have hu:=Jv6 t
 obtain ⟨u,hq⟩:∃ u,u=Jb8 t:=⟨_,rfl⟩
 rw [<-hq] at hu
 have e:Ja2 a+(Ja2 b - Ja2 a)*u / 65536=(Ja2 a*(65536 - u)+Ja2 b*u) / 65536:=by
  have:Ja2 a*(65536 - u)+Ja2 b*u=(Ja2 b - Ja2 a)*u+Ja2 a*65536:=by rw [Int.mul_sub,Int.sub_mul];omega
  rw [this,Int.add_mul_ediv_right _ _ (by decide)];omega
 have hb:Ja2 a<=(Ja2 a*(65536 - u)+Ja2 b*u) / 65536/\(Ja2 a*(65536 - u)+Ja2 b*u) / 65536<=Ja2 b\/Ja2 b<=(Ja2 a*(65536 - u)+Ja2 b*u) / 65536/\(Ja2 a*(65536 - u)+Ja2 b*u) / 65536<=Ja2 a:=by
  rcases Int.le_total (Ja2 a) (Ja2 b) with h|h
  ·left
   have h1:=Int.mul_le_mul_of_nonneg_right h hu.1
   have h2:=Int.mul_le_mul_of_nonneg_right h (show 0<=65536 - u by omega)
   have e1:Ja2 a*(65536 - u)+Ja2 a*u=Ja2 a*65536:=by rw [<-Int.mul_add];congr 1;omega
   have e2:Ja2 b*(65536 - u)+Ja2 b*u=Ja2 b*65536:=by rw [<-Int.mul_add];congr 1;omega
   omega
  right
  have h1:=Int.mul_le_mul_of_nonneg_right h hu.1
  have h2:=Int.mul_le_mul_of_nonneg_right h (show 0<=65536 - u by omega)
  have e1:Ja2 a*(65536 - u)+Ja2 a*u=Ja2 a*65536:=by rw [<-Int.mul_add];congr 1;omega
  have e2:Ja2 b*(65536 - u)+Ja2 b*u=Ja2 b*65536:=by rw [<-Int.mul_add];congr 1;omega
  omega
 refine ⟨_,u,rfl,hq,?_,hb⟩
 have ha:=Jc3 a
 have hb':=Jc3 b
 unfold Jd5
 rw [<-hq,e]
 exact Jc1 (by omega)
theorem Jq9 {a b a' b':Int}(t:Int)(h1:Ja2 a<=Ja2 a')(h2:Ja2 b<=Ja2 b'):Jd5 a b t<=Jd5 a' b' t:=by
 obtain ⟨A,u,e1,e2,e3,_⟩:=Jm2 a b t
 obtain ⟨A',u',f1,f2,f3,_⟩:=Jm2 a' b' t
 have hu:=Jv6 t
 subst e2;subst f2
 rw [e3,f3,e1,f1]
 have g1:=Int.mul_le_mul_of_nonneg_right h1 (show 0<=65536 - Jb8 t by omega)
 have g2:=Int.mul_le_mul_of_nonneg_right h2 hu.1
 omega
theorem Qe4 (a b t:Int):-2147483648<=Jd5 a b t/\Jd5 a b t<=2147483648:=Jc3 _
theorem Kc5 {d t t':Int}(hd:0<=Ja2 d)(h:t<=t'):Jd2 d t<=Jd2 d t':=by
 unfold Jd2
 have:=Int.mul_le_mul_of_nonneg_left (Jc5 h) hd
 exact Jc5 (by omega)
theorem Kc6 {d t t':Int}(hd:Ja2 d<=0)(h:t<=t'):Jd2 d t'<=Jd2 d t:=by
 unfold Jd2
 have:=Int.mul_le_mul_of_nonpos_left hd (Jc5 h)
 exact Jc5 (by omega)
theorem Kf5 {a b b':Int}(h:b<=b'):Jd0 a b<=Jd0 a b':=by
 unfold Jd0;exact Jc5 (by have:=Jc5 h;omega)
abbrev V:=Nat->Int
structure PL where
 (kind paint:Int) (P:Nat->V) (r:Int)
structure MV where
 (A B:PL)
def atM (m:MV)(t:Int):PL:=⟨m.A.kind,m.A.paint,fun i k=>Jd5 (m.A.P i k) (m.B.P i k) t,Jd5 m.A.r m.B.r t⟩
structure BX where
 (lo hi:V)
structure PR where
 (a b:BX)
def lo3 (p:PL)(k:Nat):Int:=minI (minI (p.P 0 k) (p.P 1 k)) (p.P 2 k)
def hi3 (p:PL)(k:Nat):Int:=maxI (maxI (p.P 0 k) (p.P 1 k)) (p.P 2 k)
def Jc6 (p:PL):BX:=if p.kind=0 then ⟨fun k=>Jf3 (p.P 0 k) (Jd0 p.r 8192),fun k=>Jd0 (p.P 0 k) (Jd0 p.r 8192)⟩ else ⟨fun k=>Jf3 (lo3 p k) 8192,fun k=>Jd0 (hi3 p k) 8192⟩
def Ka1 (b:BX)(q:V):Prop:=∀ k,k<3->b.lo k<=q k/\q k<=b.hi k
def Jz7 (b:BX):Prop:=∃ k,k<3/\(2147483648<=Jh5 (b.lo k)\/2147483648<=Jh5 (b.hi k))
def Vi5 (b c:BX):BX:=⟨fun k=>minI (b.lo k) (c.lo k),fun k=>maxI (b.hi k) (c.hi k)⟩
def Kx6 (p q:PR):PR:=⟨Vi5 p.a q.a,Vi5 p.b q.b⟩
def atP (p:PR)(t:Int):BX:=⟨fun k=>Jd5 (p.a.lo k) (p.b.lo k) t,fun k=>Jd5 (p.a.hi k) (p.b.hi k) t⟩
def Vd0:BX:=⟨fun _=>-2147483648,fun _=>2147483648⟩
def Jj3 (m:MV):PR:=⟨Jc6 m.A,Jc6 { m.B with kind:=m.A.kind }⟩
def Vd2 (m:MV):Int:=maxI (Jd0 m.A.r 8192) (Jd0 m.B.r 8192)
def badM (m:MV):Prop:=Jz7 (Jj3 m).a\/Jz7 (Jj3 m).b\/2147483648<=Vd2 m
open Classical in
noncomputable def Jz9 (m:MV):PR:=if badM m then ⟨Vd0,Vd0⟩ else Jj3 m
theorem Qi1 {x:Int}(h:¬2147483648<=Jh5 x):-2147483648<Ja2 x/\Ja2 x<2147483648:=by
 unfold Jh5 at h;split at h<;>omega
theorem Ki0 (a b:Int):minI a b<=a:=by unfold minI;split<;>omega
theorem Kh9 (a b:Int):minI a b<=b:=by unfold minI;split<;>omega
theorem Kb5 (a b:Int):a<=maxI a b:=by unfold maxI;split<;>omega
theorem Kb4 (a b:Int):b<=maxI a b:=by unfold maxI;split<;>omega
theorem Vq1 (p:PL)(k i:Nat)(hi:i<3):lo3 p k<=p.P i k:=by
 have h1:=Ki0 (minI (p.P 0 k) (p.P 1 k)) (p.P 2 k)
 have h2:=Kh9 (minI (p.P 0 k) (p.P 1 k)) (p.P 2 k)
 have h3:=Ki0 (p.P 0 k) (p.P 1 k)
 have h4:=Kh9 (p.P 0 k) (p.P 1 k)
 unfold lo3
 match i,hi with
 | 0,_=>omega
 | 1,_=>omega
 | 2,_=>omega
theorem Vq4 (p:PL)(k i:Nat)(hi:i<3):p.P i k<=hi3 p k:=by
 have h1:=Kb5 (maxI (p.P 0 k) (p.P 1 k)) (p.P 2 k)
 have h2:=Kb4 (maxI (p.P 0 k) (p.P 1 k)) (p.P 2 k)
 have h3:=Kb5 (p.P 0 k) (p.P 1 k)
 have h4:=Kb4 (p.P 0 k) (p.P 1 k)
 unfold hi3
 match i,hi with
 | 0,_=>omega
 | 1,_=>omega
 | 2,_=>omega
theorem Vx9 (p:PL)(k:Nat):∃ i,i<3/\lo3 p k=p.P i k:=by
 unfold lo3 minI
 (repeat' split)
 all_goals first|exact ⟨0,by omega,rfl⟩|exact ⟨1,by omega,rfl⟩|exact ⟨2,by omega,rfl⟩
theorem Vy9 (p:PL)(k:Nat):∃ i,i<3/\hi3 p k=p.P i k:=by
 unfold hi3 maxI
 (repeat' split)
 all_goals first|exact ⟨0,by omega,rfl⟩|exact ⟨1,by omega,rfl⟩|exact ⟨2,by omega,rfl⟩
theorem Vx3 {m:MV}{t:Int}{q:V}(hq:∀ k,-2147483648<=q k/\q k<=2147483648)(h:Ka1 (Jc6 (atM m t)) q):Ka1 (atP (Jz9 m) t) q:=by
 intro k hk
 have hqk:=hq k
 have hh:=h k hk
 unfold Jz9
 split
 ·show Jd5 (-2147483648) (-2147483648) t<=q k/\q k<=Jd5 2147483648 2147483648 t
  obtain ⟨A,u,_,_,e3,e4⟩:=Jm2 (-2147483648) (-2147483648) t
  obtain ⟨A',u',_,_,f3,f4⟩:=Jm2 2147483648 2147483648 t
  have h1:Ja2 (-2147483648)=-2147483648:=by decide
  have h2:Ja2 2147483648=2147483648:=by decide
  rw [h1] at e4;rw [h2] at f4
  omega
 rename_i hb
 have ha:¬Jz7 (Jj3 m).a:=fun h=>hb (.inl h)
 have hbb:¬Jz7 (Jj3 m).b:=fun h=>hb (.inr (.inl h))
 have hw:¬2147483648<=Vd2 m:=fun h=>hb (.inr (.inr h))
 have al:¬2147483648<=Jh5 ((Jj3 m).a.lo k):=fun h=>ha ⟨k,hk,.inl h⟩
 have ah:¬2147483648<=Jh5 ((Jj3 m).a.hi k):=fun h=>ha ⟨k,hk,.inr h⟩
 have bl:¬2147483648<=Jh5 ((Jj3 m).b.lo k):=fun h=>hbb ⟨k,hk,.inl h⟩
 have bh:¬2147483648<=Jh5 ((Jj3 m).b.hi k):=fun h=>hbb ⟨k,hk,.inr h⟩
 have al:=Qi1 al
 have ah:=Qi1 ah
 have bl:=Qi1 bl
 have bh:=Qi1 bh
 have w1:=Kb5 (Jd0 m.A.r 8192) (Jd0 m.B.r 8192)
 have w2:=Kb4 (Jd0 m.A.r 8192) (Jd0 m.B.r 8192)
 show Jd5 ((Jj3 m).a.lo k) ((Jj3 m).b.lo k) t<=q k/\q k<=Jd5 ((Jj3 m).a.hi k) ((Jj3 m).b.hi k) t
 have h8:Ja2 8192=8192:=by decide
 have hu:=Jv6 t
 by_cases hk0:m.A.kind=0
 ·-- a ball
  have ea:Jc6 m.A=⟨fun k=>Jf3 (m.A.P 0 k) (Jd0 m.A.r 8192),fun k=>Jd0 (m.A.P 0 k) (Jd0 m.A.r 8192)⟩:=by unfold Jc6;rw [if_pos hk0]
  have eb:Jc6 { m.B with kind:=m.A.kind }=⟨fun k=>Jf3 (m.B.P 0 k) (Jd0 m.B.r 8192),fun k=>Jd0 (m.B.P 0 k) (Jd0 m.B.r 8192)⟩:=by unfold Jc6;rw [if_pos hk0]
  have et:Jc6 (atM m t)=⟨fun k=>Jf3 ((atM m t).P 0 k) (Jd0 (atM m t).r 8192),fun k=>Jd0 ((atM m t).P 0 k) (Jd0 (atM m t).r 8192)⟩:=by unfold Jc6;rw [if_pos (show (atM m t).kind=0 from hk0)]
  rw [et] at hh
  simp only [atM] at hh
  simp only [Jj3,ea,eb] at al ah bl bh ⊢
  obtain ⟨X,u,x1,x2,x3,x4⟩:=Jm2 (m.A.P 0 k) (m.B.P 0 k) t
  obtain ⟨Y,u2,y1,y2,y3,y4⟩:=Jm2 m.A.r m.B.r t
  rw [x3,y3] at hh
  have pa:=Jc3 (m.A.P 0 k)
  have pb:=Jc3 (m.B.P 0 k)
  have ra:=Jc3 m.A.r
  have rb:=Jc3 m.B.r
  obtain ⟨a,hA⟩:∃ a,a=Ja2 (m.A.P 0 k):=⟨_,rfl⟩
  obtain ⟨b,hB⟩:∃ b,b=Ja2 (m.B.P 0 k):=⟨_,rfl⟩
  obtain ⟨c,hC⟩:∃ c,c=Ja2 m.A.r:=⟨_,rfl⟩
  obtain ⟨d,hD⟩:∃ d,d=Ja2 m.B.r:=⟨_,rfl⟩
  have wa:Jd0 m.A.r 8192=c+8192:=by
   have:Jd0 m.A.r 8192<2147483648:=by unfold Vd2 at hw;omega
   unfold Jd0 at this ⊢;rw [h8,<-hC] at this ⊢;unfold Ja2 at this ⊢;(repeat' split at this)<;>(repeat' split)<;>omega
  have wb:Jd0 m.B.r 8192=d+8192:=by
   have:Jd0 m.B.r 8192<2147483648:=by unfold Vd2 at hw;omega
   unfold Jd0 at this ⊢;rw [h8,<-hD] at this ⊢;unfold Ja2 at this ⊢;(repeat' split at this)<;>(repeat' split)<;>omega
  rw [wa] at al ah
  rw [wb] at bl bh
  rw [wa,wb]
  have hc:Ja2 (c+8192)=c+8192:=Jc1 (by rw [<-wa];exact Jc3 _)
  have hd:Ja2 (d+8192)=d+8192:=Jc1 (by rw [<-wb];exact Jc3 _)
  have un:∀ z:Int,-2147483648<Ja2 (Ja2 z)/\Ja2 (Ja2 z)<2147483648->Ja2 z=z:=fun z hz=>by unfold Ja2 at hz ⊢;(repeat' split at hz)<;>(repeat' split)<;>omega
  have s1:Jf3 (m.A.P 0 k) (c+8192)=a - (c+8192):=by unfold Jf3 at al ⊢;rw [hc,<-hA] at al ⊢;exact un _ al
  have s2:Jd0 (m.A.P 0 k) (c+8192)=a+(c+8192):=by unfold Jd0 at ah ⊢;rw [hc,<-hA] at ah ⊢;exact un _ ah
  have s3:Jf3 (m.B.P 0 k) (d+8192)=b - (d+8192):=by unfold Jf3 at bl ⊢;rw [hd,<-hB] at bl ⊢;exact un _ bl
  have s4:Jd0 (m.B.P 0 k) (d+8192)=b+(d+8192):=by unfold Jd0 at bh ⊢;rw [hd,<-hB] at bh ⊢;exact un _ bh
  rw [s1] at al;rw [s2] at ah;rw [s3] at bl;rw [s4] at bh
  rw [s1,s2,s3,s4]
  have i1:Ja2 (a - (c+8192))=a - (c+8192):=by rw [<-s1];exact Jc1 (Jc3 _)
  have i2:Ja2 (a+(c+8192))=a+(c+8192):=by rw [<-s2];exact Jc1 (Jc3 _)
  have i3:Ja2 (b - (d+8192))=b - (d+8192):=by rw [<-s3];exact Jc1 (Jc3 _)
  have i4:Ja2 (b+(d+8192))=b+(d+8192):=by rw [<-s4];exact Jc1 (Jc3 _)
  rw [i1] at al;rw [i2] at ah;rw [i3] at bl;rw [i4] at bh
  obtain ⟨L,uL,l1,l2,l3,l4⟩:=Jm2 (a - (c+8192)) (b - (d+8192)) t
  obtain ⟨H,uH,k1,k2,k3,k4⟩:=Jm2 (a+(c+8192)) (b+(d+8192)) t
  rw [i1,i3] at l1 l4
  rw [i2,i4] at k1 k4
  rw [l3,k3]
  rw [<-hA,<-hB] at x1 x4
  rw [<-hC,<-hD] at y1 y4
  subst x2;subst y2;subst l2;subst k2
  have eL:L=X - Y - 8192*65536:=by
   rw [l1,x1,y1];simp only [Int.sub_mul,Int.add_mul,Int.mul_sub];omega
  have eH:H=X+Y+8192*65536:=by
   rw [k1,x1,y1];simp only [Int.add_mul,Int.mul_sub];omega
  have hx:Ja2 (X / 65536)=X / 65536:=Jc1 (by omega)
  have hy:Ja2 (Y / 65536)=Y / 65536:=Jc1 (by omega)
  have hy8:Jd0 (Y / 65536) 8192=Y / 65536+8192:=by unfold Jd0;rw [hy,h8];exact Jc1 (by omega)
  rw [hy8] at hh
  have hyy:Ja2 (Y / 65536+8192)=Y / 65536+8192:=Jc1 (by omega)
  unfold Jf3 Jd0 at hh
  rw [hx,hyy] at hh
  have g1:L / 65536<=X / 65536 - (Y / 65536+8192):=by omega
  have g2:X / 65536+(Y / 65536+8192)<=H / 65536:=by omega
  have g3:=Jc5 g1
  have g4:=Jc5 g2
  have g5:Ja2 (L / 65536)=L / 65536:=Jc1 (by omega)
  have g6:Ja2 (H / 65536)=H / 65536:=Jc1 (by omega)
  omega
 -- a face
 have ea:Jc6 m.A=⟨fun k=>Jf3 (lo3 m.A k) 8192,fun k=>Jd0 (hi3 m.A k) 8192⟩:=by unfold Jc6;rw [if_neg hk0]
 have eb:Jc6 { m.B with kind:=m.A.kind }=⟨fun k=>Jf3 (lo3 m.B k) 8192,fun k=>Jd0 (hi3 m.B k) 8192⟩:=by unfold Jc6;rw [if_neg hk0];rfl
 have et:Jc6 (atM m t)=⟨fun k=>Jf3 (lo3 (atM m t) k) 8192,fun k=>Jd0 (hi3 (atM m t) k) 8192⟩:=by unfold Jc6;rw [if_neg (show ¬(atM m t).kind=0 from hk0)]
 rw [et] at hh
 simp only [Jj3,ea,eb] at al ah bl bh ⊢
 have un:∀ z:Int,-2147483648<Ja2 (Ja2 z)/\Ja2 (Ja2 z)<2147483648->Ja2 z=z:=fun z hz=>by unfold Ja2 at hz ⊢;(repeat' split at hz)<;>(repeat' split)<;>omega
 obtain ⟨a,hA⟩:∃ a,a=Ja2 (lo3 m.A k):=⟨_,rfl⟩
 obtain ⟨b,hB⟩:∃ b,b=Ja2 (lo3 m.B k):=⟨_,rfl⟩
 obtain ⟨c,hC⟩:∃ c,c=Ja2 (hi3 m.A k):=⟨_,rfl⟩
 obtain ⟨d,hD⟩:∃ d,d=Ja2 (hi3 m.B k):=⟨_,rfl⟩
 have s1:Jf3 (lo3 m.A k) 8192=a - 8192:=by unfold Jf3 at al ⊢;rw [h8,<-hA] at al ⊢;exact un _ al
 have s2:Jd0 (hi3 m.A k) 8192=c+8192:=by unfold Jd0 at ah ⊢;rw [h8,<-hC] at ah ⊢;exact un _ ah
 have s3:Jf3 (lo3 m.B k) 8192=b - 8192:=by unfold Jf3 at bl ⊢;rw [h8,<-hB] at bl ⊢;exact un _ bl
 have s4:Jd0 (hi3 m.B k) 8192=d+8192:=by unfold Jd0 at bh ⊢;rw [h8,<-hD] at bh ⊢;exact un _ bh
 rw [s1,s2,s3,s4]
 have i1:Ja2 (a - 8192)=a - 8192:=by rw [<-s1];exact Jc1 (Jc3 _)
 have i2:Ja2 (c+8192)=c+8192:=by rw [<-s2];exact Jc1 (Jc3 _)
 have i3:Ja2 (b - 8192)=b - 8192:=by rw [<-s3];exact Jc1 (Jc3 _)
 have i4:Ja2 (d+8192)=d+8192:=by rw [<-s4];exact Jc1 (Jc3 _)
 obtain ⟨i,hi,ei⟩:=Vx9 (atM m t) k
 obtain ⟨j,hj,ej⟩:=Vy9 (atM m t) k
 dsimp only at hh
 rw [ei,ej] at hh
 simp only [atM] at hh
 have mi:Jd5 (lo3 m.A k) (lo3 m.B k) t<=Jd5 (m.A.P i k) (m.B.P i k) t:=Jq9 t (Jc5 (Vq1 _ _ _ hi)) (Jc5 (Vq1 _ _ _ hi))
 have mj:Jd5 (m.A.P j k) (m.B.P j k) t<=Jd5 (hi3 m.A k) (hi3 m.B k) t:=Jq9 t (Jc5 (Vq4 _ _ _ hj)) (Jc5 (Vq4 _ _ _ hj))
 obtain ⟨X,u,x1,x2,x3,x4⟩:=Jm2 (lo3 m.A k) (lo3 m.B k) t
 obtain ⟨Y,u2,y1,y2,y3,y4⟩:=Jm2 (hi3 m.A k) (hi3 m.B k) t
 obtain ⟨L,uL,l1,l2,l3,l4⟩:=Jm2 (a - 8192) (b - 8192) t
 obtain ⟨H,uH,k1,k2,k3,k4⟩:=Jm2 (c+8192) (d+8192) t
 rw [i1,i3] at l1 l4
 rw [i2,i4] at k1 k4
 rw [<-hA,<-hB] at x1 x4
 rw [<-hC,<-hD] at y1 y4
 subst x2;subst y2;subst l2;subst k2
 have eL:L=X - 8192*65536:=by rw [l1,x1];simp only [Int.sub_mul,Int.mul_sub];omega
 have eH:H=Y+8192*65536:=by rw [k1,y1];simp only [Int.add_mul,Int.mul_sub];omega
 rw [l3,k3]
 rw [x3] at mi
 rw [y3] at mj
 have b1:=Qe4 (m.A.P i k) (m.B.P i k) t
 have b2:=Qe4 (m.A.P j k) (m.B.P j k) t
 unfold Jf3 Jd0 at hh
 rw [h8,Jc1 b1,Jc1 b2] at hh
 have g1:L / 65536<=Jd5 (m.A.P i k) (m.B.P i k) t - 8192:=by omega
 have g2:Jd5 (m.A.P j k) (m.B.P j k) t+8192<=H / 65536:=by omega
 have g3:=Jc5 g1
 have g4:=Jc5 g2
 have g5:Ja2 (L / 65536)=L / 65536:=Jc1 (by rw [<-l3];exact Qe4 _ _ _)
 have g6:Ja2 (H / 65536)=H / 65536:=Jc1 (by rw [<-k3];exact Qe4 _ _ _)
 omega
theorem Qz0 {p q:PR}{t:Int}{x:V}(h:Ka1 (atP p t) x):Ka1 (atP (Kx6 p q) t) x:=fun k hk=>by
 have h1:=h k hk
 have h2:Jd5 (minI (p.a.lo k) (q.a.lo k)) (minI (p.b.lo k) (q.b.lo k)) t<=Jd5 (p.a.lo k) (p.b.lo k) t:=Jq9 t (Jc5 (Ki0 _ _)) (Jc5 (Ki0 _ _))
 have h3:Jd5 (p.a.hi k) (p.b.hi k) t<=Jd5 (maxI (p.a.hi k) (q.a.hi k)) (maxI (p.b.hi k) (q.b.hi k)) t:=Jq9 t (Jc5 (Kb5 _ _)) (Jc5 (Kb5 _ _))
 exact ⟨Int.le_trans h2 h1.1,Int.le_trans h1.2 h3⟩
theorem Qy9 {p q:PR}{t:Int}{x:V}(h:Ka1 (atP q t) x):Ka1 (atP (Kx6 p q) t) x:=fun k hk=>by
 have h1:=h k hk
 have h2:Jd5 (minI (p.a.lo k) (q.a.lo k)) (minI (p.b.lo k) (q.b.lo k)) t<=Jd5 (q.a.lo k) (q.b.lo k) t:=Jq9 t (Jc5 (Kh9 _ _)) (Jc5 (Kh9 _ _))
 have h3:Jd5 (q.a.hi k) (q.b.hi k) t<=Jd5 (maxI (p.a.hi k) (q.a.hi k)) (maxI (p.b.hi k) (q.b.hi k)) t:=Jq9 t (Jc5 (Kb4 _ _)) (Jc5 (Kb4 _ _))
 exact ⟨Int.le_trans h2 h1.1,Int.le_trans h1.2 h3⟩
structure RY where
 (o d:V) (part:Int)
def Jf0 (r:RY)(t:Int):V:=fun k=>Jd0 (r.o k) (Jd2 (r.d k) t)
def Jw3 (r:RY)(a b:Int):BX:=⟨fun k=>minI (Jf0 r a k) (Jf0 r b k),fun k=>maxI (Jf0 r a k) (Jf0 r b k)⟩
def Jq8 (b c:BX):Prop:=∀ k,k<3->¬c.hi k<b.lo k/\¬b.hi k<c.lo k
theorem Ve0 (r:RY){a b t:Int}(h1:a<=t)(h2:t<=b):Ka1 (Jw3 r a b) (Jf0 r t):=fun k _=>by
 show minI (Jf0 r a k) (Jf0 r b k)<=Jf0 r t k/\Jf0 r t k<=maxI (Jf0 r a k) (Jf0 r b k)
 have m1:=Ki0 (Jf0 r a k) (Jf0 r b k)
 have m2:=Kh9 (Jf0 r a k) (Jf0 r b k)
 have m3:=Kb5 (Jf0 r a k) (Jf0 r b k)
 have m4:=Kb4 (Jf0 r a k) (Jf0 r b k)
 rcases Int.le_total 0 (Ja2 (r.d k)) with hd|hd
 ·have g1:Jf0 r a k<=Jf0 r t k:=Kf5 (Kc5 hd h1)
  have g2:Jf0 r t k<=Jf0 r b k:=Kf5 (Kc5 hd h2)
  omega
 have g1:Jf0 r t k<=Jf0 r a k:=Kf5 (Kc6 hd h1)
 have g2:Jf0 r b k<=Jf0 r t k:=Kf5 (Kc6 hd h2)
 omega
theorem Vg8 {b c:BX}{q:V}(h1:Ka1 b q)(h2:Ka1 c q):Jq8 b c:=fun k hk=>by
 have:=h1 k hk
 have:=h2 k hk
 omega
theorem ry_b (r:RY)(t:Int)(k:Nat):-2147483648<=Jf0 r t k/\Jf0 r t k<=2147483648:=Jc3 _
def okT (p:Int->Bool)(near far t:Int):Bool:=decide (near<t/\t<=far)&&p t
def Vy8 (l:List Int)(p:Int->Bool)(near far:Int):Option Int:=l.find? (okT p near far)
theorem Qf5 {p:Int->Bool}{near far far':Int}(h:far'<=far):∀ {l:List Int},l.Pairwise (·<=·)->Vy8 l p near far'=(Vy8 l p near far).filter fun t=>decide (t<=far')
 | [],_=>rfl
 | t::l,hs=>by
  rw [List.pairwise_cons] at hs
  have ih:=Qf5 (p:=p) (near:=near) h hs.2
  unfold Vy8 at ih ⊢
  rw [List.find?_cons,List.find?_cons]
  by_cases h1:okT p near far t=true
  ·rw [h1]
   by_cases h2:t<=far'
   ·have h3:okT p near far' t=true:=by
     unfold okT at h1 ⊢
     simp only [Bool.and_eq_true,decide_eq_true_eq] at h1 ⊢
     exact ⟨⟨h1.1.1,h2⟩,h1.2⟩
    rw [h3];simp [Option.filter,h2]
   have h3:okT p near far' t=false:=by
    unfold okT;rw [decide_eq_false (fun q=>h2 q.2)];rfl
   rw [h3]
   have h4:List.find? (okT p near far') l=none:=by
    rw [List.find?_eq_none]
    intro x hx hq
    unfold okT at hq
    simp only [Bool.and_eq_true,decide_eq_true_eq] at hq
    have:=hs.1 x hx
    omega
   simp only [h4]
   simp [Option.filter,h2]
  have h1':okT p near far t=false:=by simpa using h1
  have h3:okT p near far' t=false:=by
   cases h5:okT p near far' t with
   | false=>rfl
   | true =>
    unfold okT at h5 h1'
    simp only [Bool.and_eq_true,decide_eq_true_eq] at h5
    rw [decide_eq_true (show near<t/\t<=far from ⟨h5.1.1,by omega⟩),h5.2] at h1'
    cases h1'
  rw [h1',h3];exact ih
theorem Vq6 {l:List Int}{p:Int->Bool}{near far t:Int}(h:Vy8 l p near far=some t):near<t/\t<=far/\p t=true/\t ∈ l:=by
 have h1:=List.find?_some h
 have h2:=List.mem_of_find?_eq_some h
 unfold okT at h1
 simp only [Bool.and_eq_true,decide_eq_true_eq] at h1
 exact ⟨h1.1.1,h1.1.2,h1.2,h2⟩
def Bst (H:Nat->Option Int)(S:Nat->Prop):Option (Int × Nat)->Prop
 | none=>∀ i,S i->H i=none
 | some (t,i)=>S i/\H i=some t/\∀ j,S j->∀ u,H j=some u->t<u\/(t=u/\i<=j)
theorem Bst.uniq {H:Nat->Option Int}{S:Nat->Prop}{a b:Option (Int × Nat)}(ha:Bst H S a)(hb:Bst H S b):a=b:=by
 match a,b,ha,hb with
 | none,none,_,_=>rfl
 | none,some (t,i),ha,hb=>have:=ha i hb.1;rw [hb.2.1] at this;cases this
 | some (t,i),none,ha,hb=>have:=hb i ha.1;rw [ha.2.1] at this;cases this
 | some (t,i),some (u,j),ha,hb =>
  have h1:=ha.2.2 j hb.1 u hb.2.1
  have h2:=hb.2.2 i ha.1 t ha.2.1
  have e1:t=u:=by omega
  have e2:i=j:=by omega
  rw [e1,e2]
theorem Bst.congr {H:Nat->Option Int}{S S':Nat->Prop}{b:Option (Int × Nat)}(h:∀ i,S i↔S' i)(hb:Bst H S b):Bst H S' b:=by
 match b,hb with
 | none,hb=>exact fun i hi=>hb i ((h i).2 hi)
 | some (t,i),hb=>exact ⟨(h i).1 hb.1,hb.2.1,fun j hj=>hb.2.2 j ((h j).2 hj)⟩
def Kt0 (b:Option (Int × Nat))(i:Nat)(h:Option Int):Option (Int × Nat) :=
 match h,b with
 | none,b=>b
 | some t,none=>some (t,i)
 | some t,some (u,j)=>if t<u\/(t=u/\i<j) then some (t,i) else some (u,j)
theorem Bst.step {H:Nat->Option Int}{S:Nat->Prop}{b:Option (Int × Nat)}(hb:Bst H S b)(i:Nat):Bst H (fun j=>S j\/j=i) (Kt0 b i (H i)):=by
 unfold Kt0
 match hh:H i,b,hb with
 | none,none,hb=>rintro j (hj|rfl);exact hb j hj;exact hh
 | none,some (u,k),hb =>
  refine ⟨.inl hb.1,hb.2.1,?_⟩
  rintro j (hj|rfl) w hw
  ·exact hb.2.2 j hj w hw
  rw [hh] at hw;cases hw
 | some t,none,hb =>
  refine ⟨.inr rfl,hh,?_⟩
  rintro j (hj|rfl) w hw
  ·rw [hb j hj] at hw;cases hw
  rw [hh] at hw;injection hw with hw;right;exact ⟨hw,Nat.le_refl _⟩
 | some t,some (u,k),hb =>
  by_cases hc:t<u\/(t=u/\i<k)
  ·simp only [if_pos hc]
   refine ⟨.inr rfl,hh,?_⟩
   rintro j (hj|rfl) w hw
   ·have:=hb.2.2 j hj w hw;omega
   rw [hh] at hw;injection hw with hw;right;exact ⟨hw,Nat.le_refl _⟩
  simp only [if_neg hc]
  refine ⟨.inl hb.1,hb.2.1,?_⟩
  rintro j (hj|rfl) w hw
  ·exact hb.2.2 j hj w hw
  rw [hh] at hw;injection hw with hw;omega
def Jk9 (far:Int):Option (Int × Nat)->Int
 | none=>far
 | some (t,_)=>t
theorem Bst.skip {H:Nat->Option Int}{S T:Nat->Prop}{b:Option (Int × Nat)}{far:Int}(hH:∀ i t,H i=some t->t<=far)(hb:Bst H S b)(hT:∀ i,T i->∀ t,H i=some t->Jk9 far b<t):Bst H (fun j=>S j\/T j) b:=by
 match b,hb,hT with
 | none,hb,hT =>
  rintro j (hj|hj)
  ·exact hb j hj
  match hh:H j with
  | none=>rfl
  | some t =>
   have h1:=hT j hj t hh
   have h2:=hH j t hh
   simp only [Jk9] at h1;omega
 | some (t,i),hb,hT =>
  refine ⟨.inl hb.1,hb.2.1,?_⟩
  rintro j (hj|hj) w hw
  ·exact hb.2.2 j hj w hw
  left;exact hT j hj w hw
theorem Bst.far {H:Nat->Option Int}{S:Nat->Prop}{b:Option (Int × Nat)}{far:Int}(hH:∀ i t,H i=some t->t<=far)(hb:Bst H S b):Jk9 far b<=far:=by
 match b,hb with
 | none,_=>exact Int.le_refl _
 | some (t,i),hb=>exact hH i t hb.2.1
theorem Vn0 {H:Nat->Option Int}{S:Nat->Prop}{b:Option (Int × Nat)}{far:Int}(hH:∀ i t,H i=some t->t<=far)(i:Nat):Kt0 b i ((H i).filter fun t=>decide (t<=Jk9 far b))=Kt0 b i (H i):=by
 match hh:H i,b with
 | none,b=>rfl
 | some t,none=>simp [Option.filter,Jk9,hH i t hh]
 | some t,some (u,j) =>
  by_cases h:t<=u
  ·simp [Option.filter,Jk9,h]
  simp only [Option.filter,Jk9,decide_eq_true_eq,h,if_false,Kt0]
  rw [if_neg (by omega)]
def Jv3 (H:Nat->Option Int):Nat->Option (Int × Nat)
 | 0=>none
 | n+1=>Kt0 (Jv3 H n) n (H n)
theorem Qc7 (H:Nat->Option Int):∀ n,Bst H (fun i=>i<n) (Jv3 H n)
 | 0=>fun i hi=>by omega
 | n+1=>((Qc7 H n).step n).congr fun i=>by omega
inductive TR where
 | leaf (at':Nat)
 | node (at':Nat) (l r:TR)
def TR.root:TR->Nat
 | .leaf a=>a
 | .node a _ _=>a
def TR.size:TR->Nat
 | .leaf _=>1
 | .node _ l r=>l.size+r.size+1
structure ND where
 (p:PR) (left right first count:Int)
inductive Fit (N:Nat->ND)(C:Nat->Nat->Prop):TR->Nat->Nat->Prop
 | leaf (a from' to:Nat) (h:from'<to) (h4:to<=from'+4) (hf:(N a).first=from') (hc:(N a).count=((to - from':Nat):Int)) (hC:∀ x,from'<=x->x<to->C a x):Fit N C (.leaf a) from' to
 | node (a:Nat) (l r:TR) (from' mid to:Nat) (hc:(N a).count=0) (hl:(N a).left=(l.root:Int)) (hr:(N a).right=(r.root:Int)) (fl:Fit N C l from' mid) (fr:Fit N C r mid to) (hC:∀ x,from'<=x->x<to->C a x):Fit N C (.node a l r) from' to
theorem Fit.lt {N:Nat->ND}{C:Nat->Nat->Prop}{t:TR}{a b:Nat}(h:Fit N C t a b):a<b:=by
 induction h with
 | leaf _ _ _ h=>exact h
 | node _ _ _ _ _ _ _ _ _ _ _ _ h1 h2=>omega
theorem Fit.cov {N:Nat->ND}{C:Nat->Nat->Prop}{t:TR}{a b:Nat}(h:Fit N C t a b):∀ x,a<=x->x<b->C t.root x:=by
 cases h with
 | leaf _ _ _ _ _ _ _ hC=>exact hC
 | node _ _ _ _ _ _ _ _ _ _ _ hC=>exact hC
def Jb7 (prs:Nat->PR):List Nat->PR
 | []=>⟨⟨fun _=>0,fun _=>0⟩,⟨fun _=>0,fun _=>0⟩⟩
 | i::l=>l.foldl (fun p j=>Kx6 p (prs j)) (prs i)
def Jn4 (p:PR):BX:=Vi5 p.a p.b
def Jq4 (b:BX):V:=fun k=>Jf3 (b.hi k) (b.lo k)
def Kt7 (b:BX):Int:=Jd0 (Jd0 (Jd0 0 (Jd2 (Jq4 b 0) (Jq4 b 1))) (Jd2 (Jq4 b 1) (Jq4 b 2))) (Jd2 (Jq4 b 2) (Jq4 b 0))
def Jm4 (prs:Nat->PR)(l:List Nat):Int:=(l.length:Int)*Kt7 (Jn4 (Jb7 prs l))
def Xi2 (b:BX):V:=fun k=>Jd5 (b.lo k) (b.hi k) 32768
def Jz1 (mid:Nat->V):List Nat->V
 | []=>fun _=>0
 | i::l=>l.foldl (fun a j=>fun k=>minI (a k) (mid j k)) (mid i)
def Qx2 (mid:Nat->V):List Nat->V
 | []=>fun _=>0
 | i::l=>l.foldl (fun a j=>fun k=>maxI (a k) (mid j k)) (mid i)
def Jw0 (v:V):Nat:=if Jh5 (v 0)<Jh5 (v 1) then 1 else 0
def Jf8 (v:V):Nat:=if Jh5 (v (Jw0 v))<Jh5 (v 2) then 2 else Jw0 v
theorem Js7 (v:V):Jf8 v<3:=by unfold Jf8 Jw0;(repeat' split)<;>omega
def binI (x low wide:Int):Int:=minI (Ja2 (Jd2 524288 (Jg9 (Jf3 x low) wide)) / 65536) 7
def Jo1 (mid:Nat->V)(l:List Nat):V:=Jq4 ⟨Jz1 mid l,Qx2 mid l⟩
def axL (mid:Nat->V)(l:List Nat):Nat:=Jf8 (Jo1 mid l)
def lowL (mid:Nat->V)(l:List Nat):Int:=Jz1 mid l (axL mid l)
def Qi5 (mid:Nat->V)(l:List Nat):Int:=Jo1 mid l (axL mid l)
def Kw4 (mid:Nat->V)(l:List Nat)(c i:Nat):Bool:=decide (binI (mid i (axL mid l)) (lowL mid l) (Qi5 mid l)<(c:Int))
def Jd6 (mid:Nat->V)(l:List Nat)(c:Nat):List Nat:=l.filter (Kw4 mid l c)
def Jc8 (mid:Nat->V)(l:List Nat)(c:Nat):List Nat:=l.filter fun i=>!Kw4 mid l c i
def Vm5 (prs:Nat->PR)(mid:Nat->V)(l:List Nat)(c:Nat)(st:Option (List Nat × Nat × Int)):Option (List Nat × Nat × Int) :=
 if Jd6 mid l c=[]\/Jc8 mid l c=[] then st else
  match st with
  | none=>some (Jd6 mid l c++Jc8 mid l c,(Jd6 mid l c).length,Jm4 prs (Jd6 mid l c)+Jm4 prs (Jc8 mid l c))
  | some (b,m,q)=>if Jm4 prs (Jd6 mid l c)+Jm4 prs (Jc8 mid l c)<q then some (Jd6 mid l c++Jc8 mid l c,(Jd6 mid l c).length,Jm4 prs (Jd6 mid l c)+Jm4 prs (Jc8 mid l c)) else some (b,m,q)
def Jn0 (prs:Nat->PR)(mid:Nat->V)(l:List Nat):Nat->Option (List Nat × Nat × Int)
 | 0=>none
 | c+1=>Vm5 prs mid l (c+1) (Jn0 prs mid l c)
def Ji7 (prs:Nat->PR)(mid:Nat->V)(l:List Nat):List Nat × Nat :=
 if Qi5 mid l<=0 then (l,l.length / 2) else
  match Jn0 prs mid l 7 with
  | none=>(l,l.length / 2)
  | some (b,m,_)=>(b,m)
def OkC (l:List Nat):Option (List Nat × Nat × Int)->Prop
 | none=>True
 | some (b,m,_)=>b.Perm l/\0<m/\m<l.length
theorem Vw8 {prs:Nat->PR}{mid:Nat->V}{l:List Nat}(c:Nat){st:Option (List Nat × Nat × Int)}(h:OkC l st):OkC l (Vm5 prs mid l c st):=by
 unfold Vm5
 split
 ·exact h
 rename_i hne
 have hp:(Jd6 mid l c++Jc8 mid l c).Perm l:=List.filter_append_perm _ _
 have hl:(Jd6 mid l c).length+(Jc8 mid l c).length=l.length:=by rw [<-List.length_append];exact hp.length_eq
 have h1:0<(Jd6 mid l c).length:=List.length_pos_iff.2 fun e=>hne (.inl e)
 have h2:0<(Jc8 mid l c).length:=List.length_pos_iff.2 fun e=>hne (.inr e)
 match st,h with
 | none,_=>exact ⟨hp,h1,by omega⟩
 | some (b,m,q),h =>
  show OkC l (if _ then _ else _)
  split
  ·exact ⟨hp,h1,by omega⟩
  exact h
theorem Ke6 {prs:Nat->PR}{mid:Nat->V}{l:List Nat}:∀ c,OkC l (Jn0 prs mid l c)
 | 0=>trivial
 | c+1=>Vw8 (c+1) (Ke6 c)
theorem Kp8 {prs:Nat->PR}{mid:Nat->V}{l:List Nat}(h:2<=l.length):(Ji7 prs mid l).1.Perm l/\0<(Ji7 prs mid l).2/\(Ji7 prs mid l).2<l.length:=by
 unfold Ji7
 split
 ·exact ⟨List.Perm.refl _,by show 0<l.length / 2;omega,by show l.length / 2<_;omega⟩
 have:=Ke6 (prs:=prs) (mid:=mid) (l:=l) 7
 match hh:Jn0 prs mid l 7,this with
 | none,_=>exact ⟨List.Perm.refl _,by show 0<l.length / 2;omega,by show l.length / 2<_;omega⟩
 | some (b,m,q),h=>exact h
theorem Qn1 {prs:Nat->PR}{t:Int}{x:V}:∀ {l:List Nat} {i:Nat},i ∈ l->Ka1 (atP (prs i) t) x->Ka1 (atP (Jb7 prs l) t) x:=by
 have key:∀ (l:List Nat) (p:PR),(Ka1 (atP p t) x\/∃ j,j ∈ l/\Ka1 (atP (prs j) t) x)->Ka1 (atP (l.foldl (fun p j=>Kx6 p (prs j)) p) t) x:=by
  intro l
  induction l with
  | nil =>
   intro p h
   rcases h with h|⟨j,hj,_⟩
   ·exact h
   cases hj
  | cons a l ih =>
   intro p h
   refine ih (Kx6 p (prs a)) ?_
   rcases h with h|⟨j,hj,h⟩
   ·exact .inl (Qz0 h)
   rcases List.mem_cons.1 hj with rfl|hj
   ·exact .inl (Qy9 h)
   exact .inr ⟨j,hj,h⟩
 intro l i hi h
 cases l with
 | nil=>cases hi
 | cons a l =>
  refine key l (prs a) ?_
  rcases List.mem_cons.1 hi with rfl|hi
  ·exact .inl h
  exact .inr ⟨i,hi,h⟩
def Ji2 (o:List Nat)(a b:Nat):List Nat:=(o.drop a).take (b - a)
def Js4 (o:List Nat)(a b:Nat)(l:List Nat):List Nat:=o.take a++(l++o.drop b)
def Jp5 (prs:Nat->PR)(mid:Nat->V):Nat->Nat->Nat->List Nat × List ND->List Nat × List ND
 | 0,_,_,st=>st
 | f+1,a,b,(o,nds) =>
  if b - a<=4 then (o,nds++[⟨Jb7 prs (Ji2 o a b),-1,-1,(a:Int),((b - a:Nat):Int)⟩]) else
   let sp:=Ji7 prs mid (Ji2 o a b)
   let s1:=Jp5 prs mid f a (a+sp.2) (Js4 o a b sp.1,nds++[⟨Jb7 prs (Ji2 o a b),-1,-1,0,0⟩])
   let s2:=Jp5 prs mid f (a+sp.2) b s1
   (s2.1,s2.2.set nds.length ⟨Jb7 prs (Ji2 o a b),((nds.length+1:Nat):Int),((s1.2.length:Nat):Int),0,0⟩)
theorem Jd9 {o:List Nat}{a b:Nat}(hb:b<=o.length):(Ji2 o a b).length=b - a:=by
 unfold Ji2;rw [List.length_take,List.length_drop];omega
theorem Jx9 {o:List Nat}{a b x:Nat}(h1:a<=x)(h2:x<b):(Ji2 o a b)[x - a]?=o[x]?:=by
 unfold Ji2
 rw [List.getElem?_take_of_lt (by omega),List.getElem?_drop];congr 1;omega
theorem Jy6 {o l:List Nat}{a b:Nat}(hab:a<=b)(hb:b<=o.length)(hl:l.length=b - a):(Js4 o a b l).length=o.length:=by
 unfold Js4;simp only [List.length_append,List.length_take,List.length_drop,hl];omega
theorem Qv0 {o l:List Nat}{a b x:Nat}(hb:b<=o.length)(hab:a<=b)(hl:l.length=b - a)(h1:a<=x)(h2:x<b):(Js4 o a b l)[x]?=l[x - a]?:=by
 have e:(o.take a).length=a:=by rw [List.length_take];omega
 unfold Js4
 rw [List.getElem?_append_right (by omega),e,List.getElem?_append_left (by omega)]
theorem Qd9 {o l:List Nat}{a b x:Nat}(hb:b<=o.length)(hab:a<=b)(hl:l.length=b - a)(h:x<a\/b<=x):(Js4 o a b l)[x]?=o[x]?:=by
 have e:(o.take a).length=a:=by rw [List.length_take];omega
 unfold Js4
 rcases h with h|h
 ·rw [List.getElem?_append_left (by omega),List.getElem?_take_of_lt h]
 rw [List.getElem?_append_right (by omega),e,List.getElem?_append_right (by omega),List.getElem?_drop,hl];congr 1;omega
def Vr8 (o o':List Nat)(a b:Nat):Prop:=(Ji2 o a b).Perm (Ji2 o' a b)/\∀ x,x<a\/b<=x->o'[x]?=o[x]?
theorem Ju4 {o:List Nat}{a m b:Nat}(h1:a<=m)(h2:m<=b):Ji2 o a b=Ji2 o a m++Ji2 o m b:=by
 unfold Ji2
 have e1:b - a=(m - a)+(b - m):=by omega
 rw [e1,List.take_add,List.drop_drop]
 congr 2
 congr 1;omega
theorem Jq2 {o o':List Nat}{a b:Nat}(h:∀ x,a<=x->x<b->o'[x]?=o[x]?):Ji2 o' a b=Ji2 o a b:=by
 refine List.ext_getElem? fun i=>?_
 unfold Ji2
 rw [List.getElem?_take,List.getElem?_take]
 split
 ·rw [List.getElem?_drop,List.getElem?_drop];exact h _ (by omega) (by omega)
 rfl
structure NodeOk (prs:Nat->PR)(st st':List Nat × List ND)(a b:Nat):Prop where
 same:Vr8 st.1 st'.1 a b
 len:st'.1.length=st.1.length
 pre:∀ i,i<st.2.length->st'.2[i]?=st.2[i]?
 lt:st.2.length<st'.2.length
 fit:∀ (o:List Nat) (N:Nat->ND),(Ji2 o a b).Perm (Ji2 st'.1 a b)->(∀ x,a<=x->x<b->o[x]?=st'.1[x]?)->(∀ i nd,st.2.length<=i->st'.2[i]?=some nd->N i=nd) ->
  ∃ t,Fit N (fun at' x=>∀ i u q,o[x]?=some i->Ka1 (atP (prs i) u) q->Ka1 (atP (N at').p u) q) t a b/\t.root=st.2.length
theorem Jw7 {prs:Nat->PR}{mid:Nat->V}:∀ (f a b:Nat) (st:List Nat × List ND),b - a<=f->a<b->b<=st.1.length->NodeOk prs st (Jp5 prs mid f a b st) a b
 | 0,a,b,st,hf,hab,_=>by omega
 | f+1,a,b,(o,nds),hf,hab,hb=>by
  have hb':b<=o.length:=hb
  have cov:∀ (p:List Nat) (N:Nat->ND) (at':Nat),(N at').p=Jb7 prs (Ji2 o a b)->(Ji2 p a b).Perm (Ji2 o a b)->∀ x,a<=x->x<b->∀ i u q,p[x]?=some i->Ka1 (atP (prs i) u) q->Ka1 (atP (N at').p u) q:=by
   intro p N at' hN hp x h1 h2 i u q hi hq
   rw [hN]
   refine Qn1 (hp.mem_iff.1 ?_) hq
   have:=Jx9 (o:=p) h1 h2
   rw [hi] at this
   exact List.mem_of_getElem? this
  unfold Jp5
  by_cases h4:b - a<=4
  ·rw [if_pos h4]
   refine ⟨⟨List.Perm.refl _,fun _ _=>rfl⟩,rfl,fun i hi=>List.getElem?_append_left hi,by simp,?_⟩
   intro p N hp _ hN
   have hN0:=hN nds.length _ (Nat.le_refl _) (by simp;rfl)
   refine ⟨.leaf nds.length,Fit.leaf _ _ _ hab (by omega) (by rw [hN0]) (by rw [hN0]) ?_,rfl⟩
   exact cov p N nds.length (by rw [hN0]) hp
  rw [if_neg h4]
  have hsl:=Jd9 (a:=a) hb'
  obtain ⟨hperm,hm0,hm1⟩:=Kp8 (prs:=prs) (mid:=mid) (l:=Ji2 o a b) (by omega)
  obtain ⟨sp,hsp⟩:∃ sp,sp=Ji7 prs mid (Ji2 o a b):=⟨_,rfl⟩
  rw [<-hsp] at hperm hm0 hm1 ⊢
  rw [hsl] at hm1
  have hl1:sp.1.length=b - a:=by rw [hperm.length_eq,hsl]
  obtain ⟨o1,ho1⟩:∃ o1,o1=Js4 o a b sp.1:=⟨_,rfl⟩
  obtain ⟨n1,hn1⟩:∃ n1,n1=nds++[(⟨Jb7 prs (Ji2 o a b),-1,-1,0,0⟩:ND)]:=⟨_,rfl⟩
  have ol1:o1.length=o.length:=by rw [ho1];exact Jy6 (by omega) hb' hl1
  have nl1:n1.length=nds.length+1:=by rw [hn1];simp
  dsimp only
  rw [<-ho1,<-hn1]
  have k1:=Jw7 (prs:=prs) (mid:=mid) f a (a+sp.2) (o1,n1) (by omega) (by omega) (by show _<=o1.length;omega)
  obtain ⟨s1,hs1⟩:∃ s1,s1=Jp5 prs mid f a (a+sp.2) (o1,n1):=⟨_,rfl⟩
  rw [<-hs1] at k1 ⊢
  have sl1:s1.1.length=o.length:=k1.len.trans ol1
  have k2:=Jw7 (prs:=prs) (mid:=mid) f (a+sp.2) b s1 (by omega) (by omega) (by omega)
  obtain ⟨s2,hs2⟩:∃ s2,s2=Jp5 prs mid f (a+sp.2) b s1:=⟨_,rfl⟩
  rw [<-hs2] at k2 ⊢
  have q1:n1.length<s1.2.length:=k1.lt
  have q2:s1.2.length<s2.2.length:=k2.lt
  have e1:Ji2 o1 a b=sp.1:=by
   refine List.ext_getElem? fun i=>?_
   by_cases hi:i<b - a
   ·have:=Jx9 (o:=o1) (a:=a) (b:=b) (x:=a+i) (by omega) (by omega)
    rw [show a+i - a=i by omega] at this
    rw [this,ho1,Qv0 hb' (by omega) hl1 (by omega) (by omega),show a+i - a=i by omega]
   rw [List.getElem?_eq_none (by rw [Jd9 (by omega)];omega),List.getElem?_eq_none (by omega)]
  have p1:(Ji2 o1 a b).Perm (Ji2 s1.1 a b):=by
   rw [Ju4 (o:=o1) (m:=a+sp.2) (by omega) (by omega),Ju4 (o:=s1.1) (m:=a+sp.2) (by omega) (by omega)]
   refine List.Perm.append k1.same.1 ?_
   rw [Jq2 (o:=o1) (o':=s1.1) fun x h1 h2=>k1.same.2 x (.inr h1)]
  have p2:(Ji2 s1.1 a b).Perm (Ji2 s2.1 a b):=by
   rw [Ju4 (o:=s1.1) (m:=a+sp.2) (by omega) (by omega),Ju4 (o:=s2.1) (m:=a+sp.2) (by omega) (by omega)]
   refine List.Perm.append ?_ k2.same.1
   rw [Jq2 (o:=s1.1) (o':=s2.1) fun x h1 h2=>k2.same.2 x (.inl h2)]
  have p0:(Ji2 o a b).Perm (Ji2 s2.1 a b):=by
   have:(Ji2 o a b).Perm (Ji2 o1 a b):=by rw [e1];exact hperm.symm
   exact this.trans (p1.trans p2)
  refine ⟨⟨p0,fun x hx=>?_⟩,by show s2.1.length=_;rw [k2.len,sl1],fun i hi=>?_,by show nds.length<(s2.2.set _ _).length;rw [List.length_set];omega,?_⟩
  ·show s2.1[x]?=_
   rw [k2.same.2 x (by omega),k1.same.2 x (by omega)]
   show o1[x]?=_
   rw [ho1];exact Qd9 hb' (by omega) hl1 hx
  ·show (s2.2.set nds.length _)[i]?=nds[i]?
   have hi':i<nds.length:=hi
   rw [List.getElem?_set_ne (by omega),k2.pre i (by omega),k1.pre i (by show i<n1.length;omega)]
   show n1[i]?=_
   rw [hn1,List.getElem?_append_left hi']
  intro p N hp hpx hN
  have hN0:N nds.length=⟨Jb7 prs (Ji2 o a b),((nds.length+1:Nat):Int),((s1.2.length:Nat):Int),0,0⟩:=hN nds.length _ (Nat.le_refl _) (by
   show (s2.2.set nds.length _)[nds.length]?=_
   rw [List.getElem?_set_self (by omega)])
  have hN':∀ i nd,nds.length<i->s2.2[i]?=some nd->N i=nd:=fun i nd h1 h2=>hN i nd (by show nds.length<=i;omega) (by
   show (s2.2.set nds.length _)[i]?=_
   rw [List.getElem?_set_ne (by omega)];exact h2)
  have px:∀ x,a<=x->x<b->p[x]?=s2.1[x]?:=hpx
  obtain ⟨t1,f1,r1⟩:=k1.fit p N (by rw [Jq2 (o:=s1.1) (o':=p) fun x h1 h2=>by rw [px x h1 (by omega)];exact k2.same.2 x (.inl h2)]) (fun x h1 h2=>by rw [px x h1 (by omega)];exact k2.same.2 x (.inl h2))
   (fun i nd h1 h2=>by
    have h1':n1.length<=i:=h1
    have:i<s1.2.length:=(List.getElem?_eq_some_iff.1 h2).1
    exact hN' i nd (by omega) (by rw [k2.pre i this];exact h2))
  obtain ⟨t2,f2,r2⟩:=k2.fit p N (by rw [Jq2 (o:=s2.1) (o':=p) fun x h1 h2=>px x (by omega) h2]) (fun x h1 h2=>px x (by omega) h2)
   (fun i nd h1 h2=>hN' i nd (by omega) h2)
  refine ⟨.node nds.length t1 t2,Fit.node _ _ _ _ _ _ (by rw [hN0]) (by rw [hN0,r1];show _=((n1.length:Nat):Int);rw [nl1]) (by rw [hN0,r2]) f1 f2 ?_,rfl⟩
  refine cov p N nds.length (by rw [hN0]) ?_
  have:Ji2 p a b=Ji2 s2.1 a b:=Jq2 fun x h1 h2=>px x h1 h2
  rw [this];exact p0.symm
structure WInv (N:Nat->ND)(C:Nat->Nat->Prop)(n:Nat)(o:List Nat)(H:Nat->Option Int)(stk:List (TR × Nat × Nat))(b:Option (Int × Nat)):Prop where
 fit:∀ e,e ∈ stk->Fit N C e.1 e.2.1 e.2.2/\e.2.2<=n
 ex:∃ V:Nat->Prop,Bst H V b/\(∀ i,V i->i ∈ o)/\∀ (x i:Nat),o[x]?=some i->V i\/∃ e,e ∈ stk/\e.2.1<=x/\x<e.2.2
section
variable {N:Nat->ND}{C:Nat->Nat->Prop}{n:Nat}{o:List Nat}{H:Nat->Option Int}{stk:List (TR × Nat × Nat)}{b:Option (Int × Nat)}{t:TR}{a c:Nat}{far:Int}
theorem WInv.start (h:Fit N C t 0 n)(ho:o.length=n):WInv N C n o H [(t,0,n)] none :=
  ⟨fun e he=>by simp only [List.mem_cons,List.not_mem_nil,or_false] at he;subst he;exact ⟨h,Nat.le_refl _⟩,
   fun _=>False,fun i hi=>hi.elim,fun i hi=>hi.elim,fun x i hx=>.inr ⟨(t,0,n),List.mem_cons_self,Nat.zero_le _,by have:=(List.getElem?_eq_some_iff.1 hx).1;show x<n;omega⟩⟩
theorem WInv.miss (hH:∀ i t,H i=some t->t<=far)(h:WInv N C n o H ((t,a,c)::stk) b)(hT:∀ (x i:Nat),a<=x->x<c->o[x]?=some i->∀ u,H i=some u->Jk9 far b<u):WInv N C n o H stk b:=by
 obtain ⟨V,h1,h2,h3⟩:=h.ex
 refine ⟨fun e he=>h.fit e (List.mem_cons_of_mem _ he),fun i=>V i\/∃ x,a<=x/\x<c/\o[x]?=some i,h1.skip hH fun i ⟨x,q1,q2,q3⟩ u hu=>hT x i q1 q2 q3 u hu,?_,?_⟩
 ·rintro i (hi|⟨x,_,_,hx⟩)
  ·exact h2 i hi
  exact List.mem_of_getElem? hx
 intro x i hx
 rcases h3 x i hx with hv|⟨e,he,q1,q2⟩
 ·exact .inl (.inl hv)
 rcases List.mem_cons.1 he with rfl|he
 ·exact .inl (.inr ⟨x,q1,q2,hx⟩)
 exact .inr ⟨e,he,q1,q2⟩
theorem WInv.down {at':Nat}{l r:TR}(h:WInv N C n o H ((.node at' l r,a,c)::stk) b):∃ m,WInv N C n o H ((l,a,m)::(r,m,c)::stk) b:=by
 have h0:=h.fit _ List.mem_cons_self
 cases h0.1 with
 | node _ _ _ _ m _ hc hl hr fl fr hC =>
  refine ⟨m,?_,?_⟩
  ·intro e he
   rcases List.mem_cons.1 he with rfl|he
   ·exact ⟨fl,by have:=fr.lt;have:=h0.2;show m<=n;omega⟩
   rcases List.mem_cons.1 he with rfl|he
   ·exact ⟨fr,h0.2⟩
   exact h.fit e (List.mem_cons_of_mem _ he)
  obtain ⟨V,h1,h2,h3⟩:=h.ex
  refine ⟨V,h1,h2,fun x i hx=>?_⟩
  rcases h3 x i hx with hv|⟨e,he,q1,q2⟩
  ·exact .inl hv
  rcases List.mem_cons.1 he with rfl|he
  ·rcases Nat.lt_or_ge x m with hm|hm
   ·exact .inr ⟨_,List.mem_cons_self,q1,hm⟩
   exact .inr ⟨_,List.mem_cons_of_mem _ List.mem_cons_self,hm,q2⟩
  exact .inr ⟨e,List.mem_cons_of_mem _ (List.mem_cons_of_mem _ he),q1,q2⟩
def Jn5 (H:Nat->Option Int)(o:List Nat)(a:Nat)(b:Option (Int × Nat)):Nat->Option (Int × Nat)
 | 0=>b
 | k+1=>Kt0 (Jn5 H o a b k) (o.getD (a+k) 0) (H (o.getD (a+k) 0))
theorem Kr4 {V:Nat->Prop}(h:Bst H V b):∀ k,Bst H (fun i=>V i\/∃ x,x<k/\o.getD (a+x) 0=i) (Jn5 H o a b k)
 | 0=>h.congr fun i=>by simp
 | k+1=>((Kr4 h k).step (o.getD (a+k) 0)).congr fun i=>by
  constructor
  ·rintro ((hv|⟨x,hx,he⟩)|rfl)
   ·exact .inl hv
   ·exact .inr ⟨x,by omega,he⟩
   exact .inr ⟨k,by omega,rfl⟩
  rintro (hv|⟨x,hx,he⟩)
  ·exact .inl (.inl hv)
  rcases Nat.lt_or_ge x k with q|q
  ·exact .inl (.inr ⟨x,q,he⟩)
  have:x=k:=by omega
  subst this;exact .inr he.symm
theorem WInv.leaf (ho:o.length=n)(h:WInv N C n o H ((t,a,c)::stk) b)(hac:a<c):WInv N C n o H stk (Jn5 H o a b (c - a)):=by
 obtain ⟨V,h1,h2,h3⟩:=h.ex
 have hcn:c<=n:=(h.fit _ List.mem_cons_self).2
 refine ⟨fun e he=>h.fit e (List.mem_cons_of_mem _ he),_,Kr4 h1 (c - a),?_,?_⟩
 ·rintro i (hi|⟨x,hx,rfl⟩)
  ·exact h2 i hi
  rw [List.getD_eq_getElem?_getD,List.getElem?_eq_getElem (by omega)]
  exact List.getElem_mem _
 intro x i hx
 rcases h3 x i hx with hv|⟨e,he,q1,q2⟩
 ·exact .inl (.inl hv)
 rcases List.mem_cons.1 he with rfl|he
 ·have q1':a<=x:=q1
  have q2':x<c:=q2
  refine .inl (.inr ⟨x - a,by omega,?_⟩)
  rw [show a+(x - a)=x by omega,List.getD_eq_getElem?_getD,hx];rfl
 exact .inr ⟨e,he,q1,q2⟩
theorem WInv.all (ho:o.Perm (List.range n))(h:WInv N C n o H [] b):b=Jv3 H n:=by
 obtain ⟨V,h1,h2,h3⟩:=h.ex
 refine (h1.congr (S':=fun i=>i<n) fun i=>⟨fun hv=>?_,fun hi=>?_⟩).uniq (Qc7 H n)
 ·have:=ho.mem_iff.1 (h2 i hv);simpa using this
 have hm:i ∈ o:=ho.mem_iff.2 (by simpa using hi)
 obtain ⟨x,hx⟩:=List.getElem?_of_mem hm
 rcases h3 x i hx with hv|⟨e,he,_⟩
 ·exact hv
 cases he
theorem Vi2 {V:Nat->Prop}(hH:∀ i t,H i=some t->t<=far)(h:Bst H V b)(k:Nat):Jk9 far (Jn5 H o a b k)<=far:=(Kr4 (o:=o) (a:=a) h k).far hH
def Jw1:List (TR × Nat × Nat)->Nat
 | []=>0
 | e::l=>e.1.size+Jw1 l
theorem Jy1:∀ t:TR,0<t.size
 | .leaf _=>by show 0<1;omega
 | .node _ l r=>by show 0<l.size+r.size+1;omega
end
def il:Nat->(Nat->Int)->List CV
 | 0,_=>[]
 | n+1,f=>il n f++[.int .i64 (f n)]
def bl:Nat->(Nat->Bool)->List CV
 | 0,_=>[]
 | n+1,f=>bl n f++[.bool (f n)]
def rl:Nat->(Nat->Nat)->(Nat->Nat)->(Nat->Nat)->List CV
 | 0,_,_,_=>[]
 | n+1,r,vv,ln=>rl n r vv ln++[.sl (r n) (vv n) 0 (ln n)]
structure IntsAt (m:Ja1)(r v n:Nat)(f:Nat->Int):Prop where
 hb:∃ k ez,m[r]?=some ⟨k,3,v,ez,il n f⟩
structure BoolsAt (m:Ja1)(r v n:Nat)(f:Nat->Bool):Prop where
 hb:∃ k ez,m[r]?=some ⟨k,4,v,ez,bl n f⟩
structure RowsAt (m:Ja1)(r vp n:Nat)(ln:Nat->Nat)(q:Nat->Nat->Int):Prop where
 hb:∃ k ez rr vv,m[r]?=some ⟨k,68,vp,ez,rl n rr vv ln⟩/\∀ i,i<n->IntsAt m (rr i) (vv i) (ln i) (q i)
end Go.Proofs.YtaannomfigammaaGreat
namespace Go.Eng
section
variable {α:Type}(key:α->Int)
variable {a b:Nat}{f g h:Nat->α}
end
def Jb0:Nat->(Nat->List CV)->List CV
 | 0,_=>[]
 | n+1,F=>Jb0 n F++F n
section
variable {F G:Nat->List CV}{w n k:Nat}
theorem Ja5 (h:∀ i,(F i).length=w):∀ n,(Jb0 n F).length=n*w
 | 0=>by simp [Jb0]
 | n+1=>by rw [Jb0,List.length_append,Ja5 h n,h n,Nat.succ_mul]
theorem catC_congr:∀ {n:Nat},(∀ k,k<n->F k=G k)->Jb0 n F=Jb0 n G
 | 0,_=>rfl
 | n+1,h=>by rw [Jb0,Jb0,catC_congr fun k hk=>h k (by omega),h n (by omega)]
theorem Jv2 (h:∀ i,(F i).length=w):∀ {n k:Nat},k<n->∃ T,Jb0 n F=Jb0 k F++(F k++T)/\∀ v:List CV,Jb0 n (fun i=>if i=k then v else F i)=Jb0 k F++(v++T)
 | n+1,k,hk=>by
  rcases Nat.lt_or_ge k n with h1|h1
  ·obtain ⟨T,h2,h3⟩:=Jv2 h h1
   refine ⟨T++F n,by rw [Jb0,h2,List.append_assoc,List.append_assoc],fun v=>?_⟩
   rw [Jb0,h3 v,if_neg (show ¬n=k by omega),List.append_assoc,List.append_assoc]
  ·have e:k=n:=by omega
   subst e
   refine ⟨[],by simp [Jb0],fun v=>?_⟩
   simp only [Jb0,List.append_nil,if_true]
   rw [catC_congr (G:=F) fun i hi=>if_neg (by omega)]
theorem Jb5 (h:∀ i,(F i).length=w)(hk:k<n):((Jb0 n F).drop (k*w)).take w=F k:=by
 obtain ⟨T,h2,_⟩:=Jv2 h hk
 rw [h2,List.drop_left' (Ja5 h k),List.take_left' (h k)]
theorem Kb7 (h:∀ i,(F i).length=w)(hk:k<n){a b:Nat}(hab:a+b<=w):((Jb0 n F).drop (k*w+a)).take b=((F k).drop a).take b:=by
 have h1:=congrArg (fun l=>(l.drop a).take b) (Jb5 h hk)
 simp only [List.drop_take,List.drop_drop,List.take_take] at h1
 rwa [show min b (w - a)=b by omega] at h1
theorem Ji4 (h:∀ i,(F i).length=w)(hk:k<n){a:Nat}(ha:a<w):(Jb0 n F)[k*w+a]?=(F k)[a]?:=by
 obtain ⟨T,h2,_⟩:=Jv2 h hk
 have hl:=Ja5 h k
 have hf:=h k
 rw [h2,List.getElem?_append_right (by omega),hl,Nat.add_sub_cancel_left,List.getElem?_append_left (by omega)]
theorem Qs6 {α:Type}(vs l tl:List α)(hl:l.length=vs.length):∀ (pre:List α),setL (pre++(l++tl)) pre.length vs=pre++(vs++tl):=by
 have shift:∀ (vs l:List α) (x:α) (i:Nat),setL (x::l) (i+1) vs=x::setL l i vs:=by
  intro vs
  induction vs with
  | nil=>intro l x i;rfl
  | cons v vs ih=>intro l x i;simp only [setL,List.set_cons_succ];rw [ih]
 have pre0:∀ (vs l tl:List α),l.length=vs.length->setL (l++tl) 0 vs=vs++tl:=by
  intro vs
  induction vs with
  | nil=>intro l tl h;cases l with|nil=>rfl|cons a l=>simp at h
  | cons v vs ih =>
   intro l tl h
   cases l with
   | nil=>simp at h
   | cons a l =>
    simp only [List.cons_append,setL,List.set_cons_zero]
    rw [shift,ih l tl (by simpa using h)]
 intro pre
 induction pre with
 | nil=>exact pre0 vs l tl hl
 | cons x pre ih=>rw [List.cons_append,List.length_cons,shift,ih];rfl
theorem catC_set (h:∀ i,(F i).length=w)(hk:k<n){v:List CV}(hv:v.length=w):setL (Jb0 n F) (k*w) v=Jb0 n (fun i=>if i=k then v else F i):=by
 obtain ⟨T,h2,h3⟩:=Jv2 h hk
 have h4:=Qs6 v (F k) T (by rw [h k,hv]) (Jb0 k F)
 rw [Ja5 h k] at h4
 rw [h2,h3 v,h4]
theorem Jb4 (p:CV->Bool)(h:∀ i,(F i).all p=true):∀ n,(Jb0 n F).all p=true
 | 0=>rfl
 | n+1=>by rw [Jb0,List.all_append,Jb4 p h n,h n];rfl
end
variable {H:Type}{enc:TypeId × Value->H}
variable {P:Program}{nt:Nat}{tm:Tm}{mem:Ja1}
theorem RetP.dropM {m1:Ja1}{L:Nat}{rs:List ResultVar}{ret:AV}{extra:Ja1}{ex:Exit}(hl:m1.length=L)(hex:ex=.normal\/ex=.ret)(hres:Jd3 P rs tm (m1++extra)=some ret)(hb:ret.below L=true)(hw:MWf L m1) :
  RetP P rs L ret m1 ex tm (m1++extra):=by
 subst hl;exact RetP.drop hex hres hb hw
theorem RetP.dropM0 {m1:Ja1}{L:Nat}{rs:List ResultVar}{ret:AV}{ex:Exit}(hl:m1.length=L)(hex:ex=.normal\/ex=.ret)(hres:Jd3 P rs tm m1=some ret)(hb:ret.below L=true)(hw:MWf L m1) :
  RetP P rs L ret m1 ex tm m1:=by
 subst hl;exact RetP.drop0 hex hres hb hw
variable {P:Program}{m m':Ja1}
variable {P:Program}{nt:Nat}{tm:Tm}{mem:Ja1}{Q:Exit->Tm->Ja1->Prop}
section
variable {P:Program}{nt:Nat}{tm:Tm}{mem:Ja1}{Q:Exit->Tm->Ja1->Prop}
theorem AW.viaJ {c:Code}(keep:List Nat)(V:Tm)(U:List (Nat × Blk))
  (hz:AW P nt c tm mem (Thn (fun tm' m'=>Weak nt tm' m' (V++Jb3 tm keep) (Ja4 mem U)) Q))
  (h:Q .normal (V++Jb3 tm keep) (Ja4 mem U)):AW P nt c tm mem Q:=by
 intro ρ a w hr
 refine wp_mono (hz ρ a w hr) ?_
 rintro e a' w' ⟨ρ',tm',mem',hr',hs,hd,hq⟩
 cases e with
 | normal =>
  obtain ⟨ρ2,hr2,hs2⟩:=hq ρ' a' w' hr'
  exact ⟨ρ2,_,_,hr2,hs2 _ _ _ (by rw [Jq5];exact Nat.le_refl _) hs,hd,h⟩
 | _=>exact ⟨ρ',tm',mem',hr',hs,hd,hq⟩
end
theorem AW.anyMemG {P:Program}{nt:Nat}{tm:Tm}{mem:Ja1}{Q:Exit->Tm->Ja1->Prop}{c:Code}(I:Ja1->Prop)(h0:I mem)(h:∀ M,I M->AW P nt c tm M Q):AW P nt c tm mem Q:=h mem h0
theorem AW.loopX {P:Program}{nt:Nat}{tm:Tm}{mem:Ja1}{Q:Exit->Tm->Ja1->Prop}{ι:Type}{c:Code}(keep:List Nat)(I:ι->Prop)(V:ι->Tm)(M:ι->Ja1)(μ:ι->Nat)(i:ι)(hi:I i)(hv:Keeps tm (V i))(hm:M i=mem)
  (hl:∀ j,I j->mem.length<=(M j).length)
  (h:∀ i,I i->AW P nt c (V i++Jb3 tm keep) (M i) (Thn (fun tm' mem'=>∃ j,I j/\μ j < μ i/\Weak nt tm' mem' (V j++Jb3 tm keep) (M j)) Q)):AW P nt (.loop c) tm mem Q:=by
 subst hm
 refine AW.weak (tm':=V i++Jb3 tm keep) (Keeps.append hv (Jr8 _ _)) ?_
 exact AL.loop (AL.inv I (fun j=>V j++Jb3 tm keep) M μ hl h (μ i) i hi (Nat.le_refl _))
end Go.Eng
namespace Go.Proofs.YtaannomfigammaaGreat
open Go Go.Eng
def iL (l:List Int):List CV:=l.map (CV.int .i64)
theorem Ki8 (l:List Int):(iL l).length=l.length:=List.length_map _
theorem Qy6 (l:List Int)(x:Int):iL l++[.int .i64 x]=iL (l++[x]):=by simp [iL]
theorem iL_at {l:List Int}{i:Nat}{x:Int}(h:l[i]?=some x):(iL l)[i]?=some (.int .i64 x):=by simp [iL,h]
theorem Ji3 (L:Nat)(l:List Int):(iL l).all (CV.below L)=true:=by simp only [iL,List.all_map,List.all_eq_true];intro _ _;rfl
theorem Qy5 (l:List Int):(iL l).all CV.isVal=true:=by simp only [iL,List.all_map,List.all_eq_true];intro _ _;rfl
def Jj1 (f:Nat->Bool):Nat->List Int
 | 0=>[]
 | n+1=>if f n=true then Jj1 f n++[(n:Int)] else Jj1 f n
theorem Kq9 (f:Nat->Bool):∀ n,(Jj1 f n).length<=n
 | 0=>Nat.le_refl _
 | n+1=>by
  have:=Kq9 f n
  unfold Jj1
  split
  ·simp;omega
  omega
theorem Vv5 (n:Nat):∃ r,r*r<=n/\n<(r+1)*(r+1):=by
 induction n with
 | zero=>exact ⟨0,by omega,by omega⟩
 | succ n ih =>
  obtain ⟨r,h1,h2⟩:=ih
  rcases Nat.lt_or_ge (n+1) ((r+1)*(r+1)) with h|h
  ·exact ⟨r,by omega,h⟩
  refine ⟨r+1,h,?_⟩
  have e:(r+1+1)*(r+1+1)=(r+1)*(r+1)+2*r+3:=by
   simp only [Nat.add_mul,Nat.mul_add];omega
  omega
structure IsRoot (a:Int)(r:Nat):Prop where
 pos:0<Ja2 a
 lo:(r:Int)*(r:Int)<=Ja2 a*65536
 hi:Ja2 a*65536<((r:Int)+1)*((r:Int)+1)
theorem Kz5 {a:Int}(h:0<Ja2 a):∃ r,IsRoot a r:=by
 obtain ⟨r,h1,h2⟩:=Vv5 (Ja2 a*65536).toNat
 refine ⟨r,h,?_,?_⟩
 ·have:((r*r:Nat):Int)<=Ja2 a*65536:=by omega
  rwa [Int.natCast_mul] at this
 have:Ja2 a*65536<(((r+1)*(r+1):Nat):Int):=by omega
 rwa [Int.natCast_mul,Int.natCast_add] at this
theorem Ky5 {x y:Nat}(h:x<=y):(x:Int)*(x:Int)<=(y:Int)*(y:Int):=by
 have:=Nat.mul_le_mul h h
 exact_mod_cast this
theorem IsRoot.lt {a:Int}{r:Nat}(h:IsRoot a r):r<16777216:=by
 rcases Nat.lt_or_ge r 16777216 with h1|h1
 ·exact h1
 have:=Ky5 h1
 have:=h.lo
 have:=Jc3 a
 omega
theorem IsRoot.iff {a:Int}{r:Nat}(h:IsRoot a r)(x:Nat):(x:Int)*(x:Int)<=Ja2 a*65536↔x<=r:=by
 constructor
 ·intro hx
  rcases Nat.lt_or_ge r x with h1|h1
  ·have h2:=Ky5 (show r+1<=x by omega)
   have:=h.hi
   rw [Int.natCast_add] at h2
   simp only [Int.natCast_one] at h2
   omega
  exact h1
 intro hx
 have:=Ky5 hx
 have:=h.lo
 omega
theorem Xh5 (k j:Nat)(hj:j<25)(hk:2 ^ (j+1)*k<2 ^ 25):bits .or .i64 ((2 ^ (j+1)*k:Nat):Int) ((2 ^ j:Nat):Int)=((2 ^ (j+1)*k+2 ^ j:Nat):Int):=by
  have hb:2 ^ j<2 ^ (j+1):=Nat.pow_lt_pow_right (by decide) (by omega)
  have hb2:2 ^ j<2 ^ 25:=Nat.pow_lt_pow_right (by decide) hj
  rw [(bits_nat .i64 25 (by decide) (fun n h0 h1=>wi (by have:(2:Int) ^ 25=33554432:=by decide
                                                         omega)) (2 ^ (j+1)*k) (2 ^ j) hk hb2).2,<-Nat.two_pow_add_eq_or_of_lt hb]
def Qp4 (j:Nat):Nat:=2 ^ j / 2
def Jr0 (r j:Nat):Nat:=2 ^ j*(r / 2 ^ j)
theorem Vr6 (j:Nat):Qp4 (j+1)=2 ^ j:=by unfold Qp4;rw [Nat.pow_succ];omega
theorem Qn0 {r j:Nat}:Jr0 r j=if Jr0 r (j+1)+2 ^ j<=r then Jr0 r (j+1)+2 ^ j else Jr0 r (j+1):=by
 unfold Jr0
 have e:r / 2 ^ (j+1)=r / 2 ^ j / 2:=by rw [Nat.pow_succ,Nat.div_div_eq_div_mul]
 have h0:0<2 ^ j:=Nat.pos_of_ne_zero (by simp)
 have h1:=Nat.div_add_mod r (2 ^ j)
 have h2:=Nat.mod_lt r h0
 have h3:2 ^ (j+1)*(r / 2 ^ (j+1))=2 ^ j*(2*(r / 2 ^ j / 2)):=by rw [e,Nat.pow_succ,Nat.mul_assoc]
 rw [h3]
 generalize r / 2 ^ j=k at *
 have h4:=Nat.div_add_mod k 2
 have h5:=Nat.mod_lt k (show 0<2 by decide)
 rcases Nat.lt_or_ge (k%2) 1 with h6|h6
 ·have:2*(k / 2)=k:=by omega
  rw [this,if_neg (by omega)]
 have e2:k=2*(k / 2)+1:=by omega
 have e3:2 ^ j*(2*(k / 2))+2 ^ j=2 ^ j*k:=by
  rw [<-Nat.mul_succ,Nat.succ_eq_add_one,<-e2]
 rw [e3,if_pos (by omega)]
theorem Qf7 (r j:Nat):Jr0 r j<=r:=by unfold Jr0;exact Nat.mul_div_le r (2 ^ j)
theorem Vz0 (r:Nat):Jr0 r 0=r:=by simp [Jr0]
theorem Vi9 {r:Nat}(h:r<16777216):Jr0 r 25=0:=by
 unfold Jr0;rw [Nat.div_eq_of_lt (Nat.lt_trans h (by decide)),Nat.mul_zero]
theorem shr1 (x:Int):x.fdiv 2=x / 2:=Int.fdiv_eq_ediv_of_nonneg _ (by decide)
theorem pow1:(2:Int) ^ min 1 IntKind.i64.bits=2:=by decide
theorem Xg3 (a:Int)(m:Ja1)(h:¬0<Ja2 a):Ctr Tryz.prog 230 [.one (.int .i64 a)] m (.one (.int .i64 (0))) m:=by
 have h1:Ja2 a<=0:=by omega
 exact Ctr.f Tryz.func230 [.tmp 2] 27 h1 Qy3
theorem Vv3 (a:Int)(m:Ja1)(h:¬0<Ja2 a):Ctr Tryz.prog 211 [.one (.int .i64 a)] m (.one (.int .i64 (0))) m:=by
 have h1:Ja2 a<=0:=by omega
 exact Ctr.f Tryz.func211 [.tmp 2] 29 h1 Jh4
theorem Xg2 (a:Int)(r:Nat)(m:Ja1)(hr:IsRoot a r):Ctr Tryz.prog 230 [.one (.int .i64 a)] m (.one (.int .i64 ((r:Int)))) m:=by
 refine Ctr.en Tryz.func230 [.tmp 2] 27 fun hwf Q hQ=>?_
 have ha:=Jc3 a
 have hp:=hr.pos
 have hrl:=hr.lt
 have h1:¬Ja2 a<=0:=by omega
 have hs:IntKind.i64.wrap (Ja2 a*65536)=Ja2 a*65536:=wi (by omega)
 have h25:=Vi9 hrl
 have hb25:Qp4 25=16777216:=by decide
 have hw0:IntKind.i64.wrap (r:Int)=(r:Int):=wi (by omega)
 have U1:=ca4 h1 @Qv2 hs hw0
 refine AW.w 12 U1 Qy3 fun K J0=>?_
 refine AW.loopK [3] (fun j=>j<=25) (fun j=>[(4,.one (.int .i64 ((Jr0 r j:Nat):Int))),(5,.one (.int .i64 ((Qp4 j:Nat):Int)))]) (fun j=>[]) (fun j=>j) 25 (by omega) ?_ ?_ fun j hi3=>?_
 · (simp only [h25,hb25,Keeps,Tm.get_cons,Nat.reduceEqDiff,↓reduceIte,and_true];exact ⟨rfl,rfl⟩)
 · first|rfl|(simp only [Ja4,push_cast,simprocAttr,U1,h25,hb25,Int.natCast_zero,Int.natCast_ofNat]<;>rfl)
 try simp only [Jb3,Ja4,push_cast,simprocAttr,U1]
 refine AW.w 2 U1 Tru fun K J1=>?_
 refine AW.cond rfl (fun h14=>?_) (fun h14=>?_)
 ·have hpos:=of_decide_eq_true h14
  obtain ⟨k,rfl⟩:∃ k,j=k+1:=by
    rcases j with _|k
    · exfalso;simp [Qp4] at hpos
    exact ⟨k,rfl⟩
  have hbit:=Vr6 k
  have hor:=Xh5 (r / 2 ^ (k+1)) k (by omega) (by have:=Qf7 r (k+1);unfold Jr0 at this;have e:2 ^ 25=33554432:=by decide
                                                 omega)
  have hst0:=@Qn0 r k
  have hiff:=hr.iff (Jr0 r (k+1)+2 ^ k)
  have hle:=Qf7 r (k+1)
  have hkb:2 ^ k<=2 ^ 24:=Nat.pow_le_pow_right (by decide) (by omega)
  have e24:2 ^ 24=16777216:=by decide
  have hor2:bits .or .i64 ((Jr0 r (k+1):Nat):Int) ((Qp4 (k+1):Nat):Int)=((Jr0 r (k+1)+2 ^ k:Nat):Int):=by rw [hbit];exact hor
  have hsh:((Qp4 (k+1):Nat):Int) / 2=((Qp4 k:Nat):Int):=by rw [hbit];unfold Qp4;omega
  generalize hx:Jr0 r (k+1)+2 ^ k=x at *
  have hxb:x<=33554432:=by omega
  have hsq:=Qk9 (x:=(x:Int)) (y:=(x:Int)) (A:=33554432) (B:=33554432) (by omega) (by omega)
  have hwx:IntKind.i64.wrap ((x:Int)*(x:Int))=(x:Int)*(x:Int):=wi (by omega)
  have hwb:IntKind.i64.wrap ((Qp4 k:Nat):Int)=((Qp4 k:Nat):Int):=wi (by unfold Qp4;omega)
  refine AW.w 4 Tru Tru fun K J1=>?_
  have U2:=ca4 U1 hor2 hwx (ca4 @pow1 @shr1 hsh hwb)
  refine AW.c 2 U2 Tru ?_
  refine AW.cond rfl (fun h24=>?_) (fun h24=>?_)
  ·have hst:((Jr0 r k:Nat):Int)=(x:Int):=by
     have:=hiff.1 (of_decide_eq_true h24)
     rw [hst0,if_pos this]
   refine AW.w 3 U2 Tru ?_
   exact Wk k U2 (ca2 hsh hst)
  have hst:Jr0 r k=Jr0 r (k+1):=by
    have h0:=of_decide_eq_false h24
    rw [hst0,if_neg (fun h=>h0 (hiff.2 h))]
  refine AW.w 3 U2 Tru ?_
  exact Wk k U2 (ca2 hsh hst)
 have hj0:j=0:=by
   have h0:=of_decide_eq_false h14
   rcases j with _|k
   · rfl
   exfalso;rw [Vr6] at h0;have:0<2 ^ k:=Nat.pos_of_ne_zero (by simp)
   omega
 subst hj0
 have hr0:=Vz0 r
 refine AW.w 2 Tru Tru ?_
 have U3:=ca2 U1 hr0
 exact AW.f U3 Tru
theorem Vv2 (a:Int)(r:Nat)(m:Ja1)(hr:IsRoot a r):Ctr Tryz.prog 211 [.one (.int .i64 a)] m (.one (.int .i64 ((r:Int)))) m:=by
 refine Ctr.en Tryz.func211 [.tmp 2] 29 fun hwf Q hQ=>?_
 have ha:=Jc3 a
 have hp:=hr.pos
 have hrl:=hr.lt
 have h1:¬Ja2 a<=0:=by omega
 have hs:IntKind.i64.wrap (Ja2 a*65536)=Ja2 a*65536:=wi (by omega)
 have U4:=ca2 h1 hs
 refine AW.w 11 U4 Jh4 fun K J0=>?_
 refine AW.loopK [3] (fun p=>p.1<=r/\r<p.2/\p.2<=16777216) (fun p=>[(4,.one (.int .i64 (p.1:Int))),(5,.one (.int .i64 (p.2:Int)))]) (fun p=>[]) (fun p=>p.2 - p.1) (0,16777216) ⟨by omega,by omega,by omega⟩ ?_ ?_ fun p hi3=>?_
 · (simp only [Keeps,Tm.get_cons,Nat.reduceEqDiff,↓reduceIte,and_true];exact ⟨rfl,rfl⟩)
 · first|rfl|(simp only [Ja4,push_cast,simprocAttr,U4]<;>rfl)
 obtain ⟨lo,hi⟩:=p
 obtain ⟨hlo,hhi,hmx⟩:=hi3
 dsimp only at hlo hhi hmx ⊢
 have w1:IntKind.i64.wrap ((hi:Int) - (lo:Int))=(hi:Int) - (lo:Int):=wi (by omega)
 try simp only [Jb3,Ja4,push_cast,simprocAttr,U4]
 refine AW.w 2 U4 Tru fun K J1=>?_
 refine AW.cond rfl (fun h16=>?_) (fun h16=>?_)
 ·rw [w1] at h16
  have hgap:1<(hi:Int) - (lo:Int):=of_decide_eq_true h16
  obtain ⟨md,hmd⟩:∃ md,md=(lo+hi) / 2:=⟨_,rfl⟩
  have w2:IntKind.i64.wrap ((lo:Int)+(hi:Int))=(lo:Int)+(hi:Int):=wi (by omega)
  have w3:((lo:Int)+(hi:Int)).tdiv 2=(md:Int):=by rw [Int.tdiv_eq_ediv_of_nonneg (by omega)];omega
  have w4:IntKind.i64.wrap (md:Int)=(md:Int):=wi (by omega)
  have hsq:=Qk9 (x:=(md:Int)) (y:=(md:Int)) (A:=33554432) (B:=33554432) (by omega) (by omega)
  have hwx:IntKind.i64.wrap ((md:Int)*(md:Int))=(md:Int)*(md:Int):=wi (by omega)
  have hiff:=hr.iff md
  refine AW.w 3 Tru Tru ?_
  have U5:=ca4 U4 w1 w2 (ca3 w3 w4 hwx)
  refine AW.c 2 U5 Tru ?_
  refine AW.cond rfl (fun h25=>?_) (fun h25=>?_)
  ·have hle:=hiff.1 (of_decide_eq_true h25)
   have hnI:(md,hi).1<=r/\r<(md,hi).2/\(md,hi).2<=16777216:=⟨hle,hhi,hmx⟩
   have hnm:(md,hi).2 - (md,hi).1<hi - lo:=by dsimp only;omega
   refine AW.w 1 U5 Tru ?_
   exact Wk (_,_) U5 Tru (hI:=hnI) (hm:=hnm)
  have hle:¬md<=r:=fun h=>(of_decide_eq_false h25) (hiff.2 h)
  have hnI:(lo,md).1<=r/\r<(lo,md).2/\(lo,md).2<=16777216:=⟨hlo,by dsimp only;omega,by dsimp only;omega⟩
  have hnm:(lo,md).2 - (lo,md).1<hi - lo:=by dsimp only;omega
  refine AW.w 1 U5 Tru ?_
  exact Wk (_,_) U5 Tru (hI:=hnI) (hm:=hnm)
 rw [w1] at h16
 have he:lo=r:=by have:=of_decide_eq_false h16;omega
 subst he
 exact AW.f U4 Tru
def Jt7 (y:Int):Int:=Jg9 (16*(y*(65536 - y) / 65536)) (327680 - 4*(y*(65536 - y) / 65536))
def Jy2 (a:Int):Int:=if Ja2 a%65536<32768 then Jt7 (2*(Ja2 a%65536)) else -Jt7 (2*(Ja2 a%65536) - 65536)
def Qh3 (a:Int):Int:=Jy2 (Ja2 a%65536+16384)
theorem Xk7 (a b:Int):-2147483648<=Jg9 a b/\Jg9 a b<=2147483648:=by
 unfold Jg9
 split
 ·split<;>(try split)<;>omega
 exact Jc3 _
theorem Vq7 {y:Int}(h:0<=y/\y<=65536):0<=y*(65536 - y)/\y*(65536 - y)<=4294967296/\0<=y*(65536 - y) / 65536/\y*(65536 - y) / 65536<=65536:=by
 have h1:=Qk9 (x:=y) (y:=65536 - y) (A:=65536) (B:=65536) (by omega) (by omega)
 have h2:=Int.mul_nonneg h.1 (show 0<=65536 - y by omega)
 omega
theorem Qs2 (a:Int):-2147483648<=Jy2 a/\Jy2 a<=2147483648:=by
 unfold Jy2 Jt7
 split
 ·exact Xk7 _ _
 have:=Xk7 (16*((2*(Ja2 a%65536) - 65536)*(65536 - (2*(Ja2 a%65536) - 65536)) / 65536)) (327680 - 4*((2*(Ja2 a%65536) - 65536)*(65536 - (2*(Ja2 a%65536) - 65536)) / 65536))
 omega
theorem Xf2 {a b:Int}(h:Ja2 a%65536=Ja2 b%65536):Jy2 a=Jy2 b:=by unfold Jy2;rw [h]
theorem Qq2 (y:Int)(hy:0<=y/\y<=65536)(m:Ja1):Ctr Tryz.prog 263 [.one (.int .i64 y)] m (.one (.int .i64 (Jt7 y))) m:=by
 refine Ctr.en Tryz.func263 [.tmp 2] 14 fun hwf Q hQ=>?_
 obtain ⟨q0,q1,q2,q3⟩:=Vq7 hy
 obtain ⟨p,hp⟩:∃ p,p=y*(65536 - y) / 65536:=⟨_,rfl⟩
 obtain ⟨z,hz⟩:∃ z,z=y*(65536 - y):=⟨_,rfl⟩
 have hr:Jg9 (16*p) (327680 - 4*p)=Jt7 y:=by unfold Jt7;rw [<-hp]
 have hh:=Jc1 (n:=y) (by omega)
 have hs:Jf3 65536 y=65536 - y:=by unfold Jf3;rw [hh,Jc1 (n:=65536) (by decide),Jc1 (by omega)]
 have hm:Jd2 y (65536 - y)=p:=by unfold Jd2;rw [hh,Jc1 (n:=65536 - y) (by omega),<-hp,Jc1 (by omega)]
 rw [<-hz] at q0 q1
 rw [<-hp] at q2 q3
 rw [<-hz] at hp
 have hz2:=hz.symm
 have hw0:IntKind.i64.wrap (65536 - y)=65536 - y:=wi (by omega)
 have hw1:IntKind.i64.wrap z=z:=wi (by omega)
 have hw2:IntKind.i64.wrap (16*p)=16*p:=wi (by omega)
 have hw3:IntKind.i64.wrap (4*p)=4*p:=wi (by omega)
 have hw4:IntKind.i64.wrap (327680 - 4*p)=327680 - 4*p:=wi (by omega)
 have U1:=ca4 hs hm hw0 (ca3 hw2 hw3 hw4)
 exact AW.f U1 (ca3 Kd5 Jm1 Ju0) hr
theorem Qc9 (y:Int)(hy:0<=y/\y<=65536)(m:Ja1):Ctr Tryz.prog 266 [.one (.int .i64 y)] m (.one (.int .i64 (Jt7 y))) m:=by
 refine Ctr.en Tryz.func266 [.tmp 2] 15 fun hwf Q hQ=>?_
 obtain ⟨q0,q1,q2,q3⟩:=Vq7 hy
 obtain ⟨p,hp⟩:∃ p,p=y*(65536 - y) / 65536:=⟨_,rfl⟩
 obtain ⟨z,hz⟩:∃ z,z=y*(65536 - y):=⟨_,rfl⟩
 have hr:Jg9 (16*p) (327680 - 4*p)=Jt7 y:=by unfold Jt7;rw [<-hp]
 have hh:=Jc1 (n:=y) (by omega)
 have hs:Jf3 65536 y=65536 - y:=by unfold Jf3;rw [hh,Jc1 (n:=65536) (by decide),Jc1 (by omega)]
 have hm:Jd2 y (65536 - y)=p:=by unfold Jd2;rw [hh,Jc1 (n:=65536 - y) (by omega),<-hp,Jc1 (by omega)]
 rw [<-hz] at q0 q1
 rw [<-hp] at q2 q3
 rw [<-hz] at hp
 have hz2:=hz.symm
 have hw0:IntKind.i64.wrap (65536 - y)=65536 - y:=wi (by omega)
 have hw1:IntKind.i64.wrap z=z:=wi (by omega)
 have hw2:IntKind.i64.wrap (16*p)=16*p:=wi (by omega)
 have hw3:IntKind.i64.wrap (4*p)=4*p:=wi (by omega)
 have hw4:IntKind.i64.wrap (327680 - 4*p)=327680 - 4*p:=wi (by omega)
 have hp2:=hp.symm
 refine AW.sr 3 fun K J0=>?_
 have U2:=ca4 hw0 hz2 hw1 (ca4 hp2 hw2 hw3 hw4)
 simp only [push_cast,simprocAttr,U2]
 refine CThen.by (Kp1 _ _ _ (by decide) (by omega) (by decide)) ?_
 simp only [push_cast,simprocAttr,U2]
 refine CThen.by (Qd4 _ _ _) ?_
 simp only [push_cast,simprocAttr,U2]
 exact AW.f U2 Tru hr
theorem Kt1 (a:Int)(m:Ja1):Ctr Tryz.prog 238 [.one (.int .i64 a)] m (.one (.int .i64 (Jy2 a))) m:=by
 refine Ctr.en Tryz.func238 [.tmp 2] 16 fun hwf Q hQ=>?_
 have ha:=Jc3 a
 obtain ⟨t,ht⟩:∃ t,t=Ja2 a%65536:=⟨_,rfl⟩
 have ht2:=ht.symm
 have b1:0<=t/\t<65536:=by omega
 have b2:=Qs2 a
 refine AW.w 4 ht2 Vp5 fun K J0=>?_
 refine AW.cond rfl (fun h7=>?_) (fun h7=>?_)
 ·have hc:=of_decide_eq_true h7
  have hy:0<=2*t/\2*t<=65536:=by omega
  have hr:Jt7 (2*t)=Jy2 a:=by unfold Jy2;rw [<-ht,if_pos hc]
  have hw1:IntKind.i64.wrap (2*t)=2*t:=wi (by omega)
  have U3:=ca2 ht2 hw1
  exact AW.f U3 (Qq2 _ hy) hr
 have hc:=of_decide_eq_false h7
 have hy:0<=2*t - 65536/\2*t - 65536<=65536:=by omega
 have hr:-Jt7 (2*t - 65536)=Jy2 a:=by unfold Jy2;rw [<-ht,if_neg hc]
 have hw1:IntKind.i64.wrap (2*t)=2*t:=wi (by omega)
 have hw2:IntKind.i64.wrap (2*t - 65536)=2*t - 65536:=wi (by omega)
 have hw3:IntKind.i64.wrap (-Jt7 (2*t - 65536))=-Jt7 (2*t - 65536):=by rw [hr];exact wi (by omega)
 refine AW.w 2 Tru Tru ?_
 have U4:=ca4 ht2 hw1 hw2 (ca2 hw3 @Int.zero_sub)
 exact AW.f U4 (Qq2 _ hy) hr
theorem Kq0 (a:Int)(m:Ja1):Ctr Tryz.prog 244 [.one (.int .i64 a)] m (.one (.int .i64 (Jy2 a))) m:=by
 refine Ctr.en Tryz.func244 [.tmp 2] 21 fun hwf Q hQ=>?_
 have ha:=Jc3 a
 obtain ⟨t,ht⟩:∃ t,t=Ja2 a%65536:=⟨_,rfl⟩
 have ht2:=ht.symm
 have b1:0<=t/\t<65536:=by omega
 have b2:=Qs2 a
 have hw6:IntKind.i64.wrap (Ja2 a / 65536*65536)=Ja2 a / 65536*65536:=wi (by omega)
 have hw7:IntKind.i64.wrap (Ja2 a - Ja2 a / 65536*65536)=t:=by rw [wi (by omega)];omega
 refine AW.sr 2 fun K J0=>?_
 iterate 2
  simp only [push_cast,simprocAttr,ht2,hw6,hw7]
  refine CThen.by (Jh4 _ _) ?_
 simp only [push_cast,simprocAttr,ht2,hw6,hw7]
 refine CThen.by (Kp1 _ _ _ (by decide) (by omega) (by decide)) ?_
 simp only [push_cast,simprocAttr,ht2,hw6,hw7]
 apply J0
 refine AW.q fun K J0=>?_
 have U5:=ca3 ht2 hw6 hw7
 refine AW.c 1 U5 Tru ?_
 refine AW.cond rfl (fun h12=>?_) (fun h12=>?_)
 ·have hc:=of_decide_eq_true h12
  have hy:0<=2*t/\2*t<=65536:=by omega
  have hr:Jt7 (2*t)=Jy2 a:=by unfold Jy2;rw [<-ht,if_pos hc]
  have hw1:IntKind.i64.wrap (2*t)=2*t:=wi (by omega)
  have U6:=ca2 U5 hw1
  exact AW.f U6 (Qc9 _ hy) hr
 have hc:=of_decide_eq_false h12
 have hy:0<=2*t - 65536/\2*t - 65536<=65536:=by omega
 have hr:-Jt7 (2*t - 65536)=Jy2 a:=by unfold Jy2;rw [<-ht,if_neg hc]
 have hw1:IntKind.i64.wrap (2*t)=2*t:=wi (by omega)
 have hw2:IntKind.i64.wrap (2*t - 65536)=2*t - 65536:=wi (by omega)
 have hw3:IntKind.i64.wrap (-Jt7 (2*t - 65536))=-Jt7 (2*t - 65536):=by rw [hr];exact wi (by omega)
 refine AW.w 2 Tru Tru ?_
 have U7:=ca4 U5 hw1 hw2 (ca2 hw3 @Int.zero_sub)
 exact AW.f U7 (Qc9 _ hy) hr
theorem Qb8 (a:Int)(m:Ja1):Ctr Tryz.prog 237 [.one (.int .i64 a)] m (.one (.int .i64 (Qh3 a))) m:=by
 have ha:=Jc3 a
 obtain ⟨t,ht⟩:∃ t,t=Ja2 a%65536:=⟨_,rfl⟩
 have ht2:=ht.symm
 have b1:0<=t/\t<65536:=by omega
 have b2:=Qs2 a
 have hr:Jy2 (t+16384)=Qh3 a:=by unfold Qh3;rw [ht]
 have hw1:IntKind.i64.wrap (t+16384)=t+16384:=wi (by omega)
 have U8:=ca2 ht2 hw1
 exact Ctr.f Tryz.func237 [.tmp 2] 7 U8 (ca2 Vp5 Kt1) hr
theorem Ky8 (a:Int)(m:Ja1):Ctr Tryz.prog 243 [.one (.int .i64 a)] m (.one (.int .i64 (Qh3 a))) m:=by
 refine Ctr.en Tryz.func243 [.tmp 2] 8 fun hwf Q hQ=>?_
 have ha:=Jc3 a
 obtain ⟨t,ht⟩:∃ t,t=Ja2 a%65536:=⟨_,rfl⟩
 have ht2:=ht.symm
 have b1:0<=t/\t<65536:=by omega
 have b2:=Qs2 a
 have hm:=Kp6 (n:=Ja2 a) (d:=65536) (by decide)
 obtain ⟨q,hq⟩:∃ q,q=(Ja2 a).tmod 65536:=⟨_,rfl⟩
 have hq2:=hq.symm
 rw [<-hq] at hm
 have hr:Jy2 (q+16384)=Qh3 a:=by
   unfold Qh3
   refine Xf2 ?_
   rw [Jc1 (by omega),Jc1 (by omega)]
   omega
 have hw0:IntKind.i64.wrap q=q:=wi (by omega)
 have hw1:IntKind.i64.wrap (q+16384)=q+16384:=wi (by omega)
 have U9:=ca3 hq2 hw0 hw1
 exact AW.f U9 (ca2 Jh4 Kq0) hr
structure SC where
 (w h sm dp fr sh sd:Int) (sk:Nat->Int) (ey lk wd:Int) (np nt nj nx:Nat) (pk:Nat->Int) (pc:Nat->Nat->Int) (pr:Nat->Int) (tw:Nat->Int) (kn:Nat->Nat) (kt:Nat->Nat->Int) (kv:Nat->Nat->Nat->Int)
 (jp jm jt js:Nat->Int) (xj xp xk:Nat->Int) (xv:Nat->Nat->Nat->Int) (xr:Nat->Int)
def c3C (f:Nat->Int):List CV:=[.int .i64 (f 0),.int .i64 (f 1),.int .i64 (f 2)]
theorem Vr3 (f:Nat->Int):c3C f=[.int .i64 (f 0),.int .i64 (f 1),.int .i64 (f 2)]:=rfl
def hdC (s:SC):List CV:=.int .i64 s.w::.int .i64 s.h::.int .i64 s.sm::.int .i64 s.dp::.int .i64 s.fr::.int .i64 s.sh::.int .u64 s.sd::c3C s.sk
structure RWs where
 (p vp t vt j vj x vx:Nat) (k vk:Nat->Nat)
def tlC (s:SC)(R:RWs):List CV:=[.int .i64 s.ey,.int .i64 s.lk,.int .i64 s.wd,.sl R.p R.vp 0 s.np,.sl R.t R.vt 0 s.nt,.sl R.j R.vj 0 s.nj,.sl R.x R.vx 0 s.nx]
def scC (s:SC)(R:RWs):List CV:=hdC s++tlC s R
def pC (s:SC)(i:Nat):List CV:=[.int .i64 (s.pk i),.int .i64 (s.pc i 0),.int .i64 (s.pc i 1),.int .i64 (s.pc i 2),.int .i64 (s.pr i)]
theorem Kv5 (s:SC)(i:Nat):pC s i=[.int .i64 (s.pk i),.int .i64 (s.pc i 0),.int .i64 (s.pc i 1),.int .i64 (s.pc i 2),.int .i64 (s.pr i)]:=rfl
def tC (s:SC)(R:RWs)(i:Nat):List CV:=[.int .i64 (s.tw i),.sl (R.k i) (R.vk i) 0 (s.kn i)]
theorem Vd6 (s:SC)(R:RWs)(i:Nat):tC s R i=[.int .i64 (s.tw i),.sl (R.k i) (R.vk i) 0 (s.kn i)]:=rfl
def kC (s:SC)(i j:Nat):List CV:=[.int .i64 (s.kt i j),.int .i64 (s.kv i j 0),.int .i64 (s.kv i j 1),.int .i64 (s.kv i j 2)]
def jC (s:SC)(i:Nat):List CV:=[.int .i64 (s.jp i),.int .i64 (s.jm i),.int .i64 (s.jt i),.int .i64 (s.js i)]
theorem Qy1 (s:SC)(i:Nat):jC s i=[.int .i64 (s.jp i),.int .i64 (s.jm i),.int .i64 (s.jt i),.int .i64 (s.js i)]:=rfl
def xC (s:SC)(i:Nat):List CV:=.int .i64 (s.xj i)::.int .i64 (s.xp i)::.int .i64 (s.xk i)::(c3C (s.xv i 0)++(c3C (s.xv i 1)++(c3C (s.xv i 2)++[.int .i64 (s.xr i)])))
theorem Ka2 (s:SC)(i:Nat):xC s i=[.int .i64 (s.xj i),.int .i64 (s.xp i),.int .i64 (s.xk i),.int .i64 (s.xv i 0 0),.int .i64 (s.xv i 0 1),.int .i64 (s.xv i 0 2),.int .i64 (s.xv i 1 0),.int .i64 (s.xv i 1 1),.int .i64 (s.xv i 1 2),.int .i64 (s.xv i 2 0),.int .i64 (s.xv i 2 1),.int .i64 (s.xv i 2 2),.int .i64 (s.xr i)]:=rfl
def inB (x lo hi:Int):Bool:=decide (lo<=x)&&decide (x<=hi)
def Jg7 (f:Nat->Int)(lo hi:Int):Bool:=decide (lo<=f 0/\f 0<=hi/\lo<=f 1/\f 1<=hi/\lo<=f 2/\f 2<=hi)
theorem inB_iff {x lo hi:Int}:inB x lo hi=true↔lo<=x/\x<=hi:=by simp [inB]
theorem Vi6 (x lo hi:Int):inB x lo hi=(decide (lo<=x)&&decide (x<=hi)):=rfl
theorem rin_t (x lo hi:Int)(m:Ja1)(g:lo<=x):Ctr Tryz.prog 156 [.one (.int .i64 x),.one (.int .i64 lo),.one (.int .i64 hi)] m (.one (.bool (inB x lo hi))) m:=by
 have U1:=ca4 @Vi6 g @decide_true (ca3 @decide_false @Bool.true_and @Bool.false_and)
 exact Ctr.f Tryz.func156 [.tmp 6] 15 U1 Tru
theorem rin_f (x lo hi:Int)(m:Ja1)(g:¬lo<=x):Ctr Tryz.prog 156 [.one (.int .i64 x),.one (.int .i64 lo),.one (.int .i64 hi)] m (.one (.bool (inB x lo hi))) m:=by
 have U2:=ca4 @Vi6 g @decide_true (ca3 @decide_false @Bool.true_and @Bool.false_and)
 exact Ctr.f Tryz.func156 [.tmp 6] 15 U2 Tru
theorem Kb0 (x lo hi:Int)(m:Ja1):Ctr Tryz.prog 156 [.one (.int .i64 x),.one (.int .i64 lo),.one (.int .i64 hi)] m (.one (.bool (inB x lo hi))) m:=by
 by_cases g:lo<=x
 ·exact rin_t x lo hi m g
 exact rin_f x lo hi m g
theorem Ja6 (f:Nat->Int):c3C f=([.int .i64 (f 0),.int .i64 (f 1),.int .i64 (f 2)]):=rfl
theorem Qx7 (f:Nat->Int)(m:Ja1):Ctr Tryz.prog 157 [.agg (c3C f)] m (.one (.bool (Jg7 f (0) (1048576)))) m:=by
 refine Ctr.en Tryz.func157 [.tmp 2] 18 fun hwf Q hQ=>?_
 refine AW.w 4 @Ja6 Tru fun K J0=>?_
 refine AW.r 4 ?_
 refine AW.w 8 @Ja6 Tru fun K J1 K J2=>?_
 refine AW.q fun K J3=>?_
 have hk0:f 0<0\/(¬f 0<0/\1048576<f 0)\/(¬f 0<0/\¬1048576<f 0):=by omega
 rcases hk0 with g0|⟨g0,f0⟩|⟨g0,f0⟩
 ·rw [show Jg7 f (0) (1048576)=false from decide_eq_false (by omega)] at hQ
  have U3:=ca2 @Ja6 g0
  refine AW.w 5 U3 Tru ?_
  refine hQ _ _ _ ?_
  first
  | (refine RetP.drop0 (Or.inr rfl) ?_ ?_ hwf
     · simp only [Jd3,Ja9,Jb6,AV.tv,push_cast,simprocAttr]
     rfl)
  | (refine RetP.drop (Or.inr rfl) ?_ ?_ hwf
     · simp only [Jd3,Ja9,Jb6,AV.tv,push_cast,simprocAttr]
     rfl)
  | (rw [show Jg7 f (0) (1048576)=true from decide_eq_true (by omega)] at * ;refine RetP.drop (Or.inr rfl) ?_ ?_ hwf
     · simp only [Jd3,Ja9,Jb6,AV.tv,push_cast,simprocAttr]
     rfl)
 ·rw [show Jg7 f (0) (1048576)=false from decide_eq_false (by omega)] at hQ
  have U4:=ca3 @Ja6 g0 f0
  refine AW.w 5 U4 Tru ?_
  refine hQ _ _ _ ?_
  first
  | (refine RetP.drop0 (Or.inr rfl) ?_ ?_ hwf
     · simp only [Jd3,Ja9,Jb6,AV.tv,push_cast,simprocAttr]
     rfl)
  | (refine RetP.drop (Or.inr rfl) ?_ ?_ hwf
     · simp only [Jd3,Ja9,Jb6,AV.tv,push_cast,simprocAttr]
     rfl)
  | (rw [show Jg7 f (0) (1048576)=true from decide_eq_true (by omega)] at * ;refine RetP.drop (Or.inr rfl) ?_ ?_ hwf
     · simp only [Jd3,Ja9,Jb6,AV.tv,push_cast,simprocAttr]
     rfl)
 have ok0:=True.intro
 have U5:=ca3 @Ja6 g0 f0
 refine AW.w 9 U5 Tru fun K J1 K J2=>?_
 refine AW.w 6 @Ja6 Tru fun K J2=>?_
 refine AW.q fun K J3=>?_
 have hk1:f 1<0\/(¬f 1<0/\1048576<f 1)\/(¬f 1<0/\¬1048576<f 1):=by omega
 rcases hk1 with g1|⟨g1,f1⟩|⟨g1,f1⟩
 ·rw [show Jg7 f (0) (1048576)=false from decide_eq_false (by omega)] at hQ
  have U6:=ca2 @Ja6 g1
  refine AW.w 5 U6 Tru ?_
  refine hQ _ _ _ ?_
  first
  | (refine RetP.drop0 (Or.inr rfl) ?_ ?_ hwf
     · simp only [Jd3,Ja9,Jb6,AV.tv,push_cast,simprocAttr]
     rfl)
  | (refine RetP.drop (Or.inr rfl) ?_ ?_ hwf
     · simp only [Jd3,Ja9,Jb6,AV.tv,push_cast,simprocAttr]
     rfl)
  | (rw [show Jg7 f (0) (1048576)=true from decide_eq_true (by omega)] at * ;refine RetP.drop (Or.inr rfl) ?_ ?_ hwf
     · simp only [Jd3,Ja9,Jb6,AV.tv,push_cast,simprocAttr]
     rfl)
 ·rw [show Jg7 f (0) (1048576)=false from decide_eq_false (by omega)] at hQ
  have U7:=ca3 @Ja6 g1 f1
  refine AW.w 5 U7 Tru ?_
  refine hQ _ _ _ ?_
  first
  | (refine RetP.drop0 (Or.inr rfl) ?_ ?_ hwf
     · simp only [Jd3,Ja9,Jb6,AV.tv,push_cast,simprocAttr]
     rfl)
  | (refine RetP.drop (Or.inr rfl) ?_ ?_ hwf
     · simp only [Jd3,Ja9,Jb6,AV.tv,push_cast,simprocAttr]
     rfl)
  | (rw [show Jg7 f (0) (1048576)=true from decide_eq_true (by omega)] at * ;refine RetP.drop (Or.inr rfl) ?_ ?_ hwf
     · simp only [Jd3,Ja9,Jb6,AV.tv,push_cast,simprocAttr]
     rfl)
 have ok1:=True.intro
 have U8:=ca3 @Ja6 g1 f1
 refine AW.w 9 U8 Tru fun K J1 K J2=>?_
 refine AW.w 6 @Ja6 Tru fun K J2=>?_
 refine AW.q fun K J3=>?_
 have hk2:f 2<0\/(¬f 2<0/\1048576<f 2)\/(¬f 2<0/\¬1048576<f 2):=by omega
 rcases hk2 with g2|⟨g2,f2⟩|⟨g2,f2⟩
 ·rw [show Jg7 f (0) (1048576)=false from decide_eq_false (by omega)] at hQ
  have U9:=ca2 @Ja6 g2
  refine AW.w 5 U9 Tru ?_
  refine hQ _ _ _ ?_
  first
  | (refine RetP.drop0 (Or.inr rfl) ?_ ?_ hwf
     · simp only [Jd3,Ja9,Jb6,AV.tv,push_cast,simprocAttr]
     rfl)
  | (refine RetP.drop (Or.inr rfl) ?_ ?_ hwf
     · simp only [Jd3,Ja9,Jb6,AV.tv,push_cast,simprocAttr]
     rfl)
  | (rw [show Jg7 f (0) (1048576)=true from decide_eq_true (by omega)] at * ;refine RetP.drop (Or.inr rfl) ?_ ?_ hwf
     · simp only [Jd3,Ja9,Jb6,AV.tv,push_cast,simprocAttr]
     rfl)
 ·rw [show Jg7 f (0) (1048576)=false from decide_eq_false (by omega)] at hQ
  have U10:=ca3 @Ja6 g2 f2
  refine AW.w 5 U10 Tru ?_
  refine hQ _ _ _ ?_
  first
  | (refine RetP.drop0 (Or.inr rfl) ?_ ?_ hwf
     · simp only [Jd3,Ja9,Jb6,AV.tv,push_cast,simprocAttr]
     rfl)
  | (refine RetP.drop (Or.inr rfl) ?_ ?_ hwf
     · simp only [Jd3,Ja9,Jb6,AV.tv,push_cast,simprocAttr]
     rfl)
  | (rw [show Jg7 f (0) (1048576)=true from decide_eq_true (by omega)] at * ;refine RetP.drop (Or.inr rfl) ?_ ?_ hwf
     · simp only [Jd3,Ja9,Jb6,AV.tv,push_cast,simprocAttr]
     rfl)
 have ok2:=True.intro
 have U11:=ca3 @Ja6 g2 f2
 refine AW.w 9 U11 Tru fun K J1 K J2=>?_
 refine AW.w 6 @Ja6 Tru ?_
 refine hQ _ _ _ ?_
 first
 | (refine RetP.drop0 (Or.inr rfl) ?_ ?_ hwf
    · simp only [Jd3,Ja9,Jb6,AV.tv,push_cast,simprocAttr]
    rfl)
 | (refine RetP.drop (Or.inr rfl) ?_ ?_ hwf
    · simp only [Jd3,Ja9,Jb6,AV.tv,push_cast,simprocAttr]
    rfl)
 | (rw [show Jg7 f (0) (1048576)=true from decide_eq_true (by omega)] at * ;refine RetP.drop (Or.inr rfl) ?_ ?_ hwf
    · simp only [Jd3,Ja9,Jb6,AV.tv,push_cast,simprocAttr]
    rfl)
theorem Kh3 (f:Nat->Int)(m:Ja1):Ctr Tryz.prog 159 [.agg (c3C f)] m (.one (.bool (Jg7 f (-16777216) (16777216)))) m:=by
 refine Ctr.en Tryz.func159 [.tmp 2] 18 fun hwf Q hQ=>?_
 refine AW.w 4 @Ja6 Tru fun K J0=>?_
 refine AW.r 4 ?_
 refine AW.w 8 @Ja6 Tru fun K J1 K J2=>?_
 refine AW.q fun K J3=>?_
 have hk0:f 0 < -16777216\/(¬f 0 < -16777216/\16777216<f 0)\/(¬f 0 < -16777216/\¬16777216<f 0):=by omega
 rcases hk0 with g0|⟨g0,f0⟩|⟨g0,f0⟩
 ·rw [show Jg7 f (-16777216) (16777216)=false from decide_eq_false (by omega)] at hQ
  have U12:=ca2 @Ja6 g0
  refine AW.w 5 U12 Tru ?_
  refine hQ _ _ _ ?_
  first
  | (refine RetP.drop0 (Or.inr rfl) ?_ ?_ hwf
     · simp only [Jd3,Ja9,Jb6,AV.tv,push_cast,simprocAttr]
     rfl)
  | (refine RetP.drop (Or.inr rfl) ?_ ?_ hwf
     · simp only [Jd3,Ja9,Jb6,AV.tv,push_cast,simprocAttr]
     rfl)
  | (rw [show Jg7 f (-16777216) (16777216)=true from decide_eq_true (by omega)] at * ;refine RetP.drop (Or.inr rfl) ?_ ?_ hwf
     · simp only [Jd3,Ja9,Jb6,AV.tv,push_cast,simprocAttr]
     rfl)
 ·rw [show Jg7 f (-16777216) (16777216)=false from decide_eq_false (by omega)] at hQ
  have U13:=ca3 @Ja6 g0 f0
  refine AW.w 5 U13 Tru ?_
  refine hQ _ _ _ ?_
  first
  | (refine RetP.drop0 (Or.inr rfl) ?_ ?_ hwf
     · simp only [Jd3,Ja9,Jb6,AV.tv,push_cast,simprocAttr]
     rfl)
  | (refine RetP.drop (Or.inr rfl) ?_ ?_ hwf
     · simp only [Jd3,Ja9,Jb6,AV.tv,push_cast,simprocAttr]
     rfl)
  | (rw [show Jg7 f (-16777216) (16777216)=true from decide_eq_true (by omega)] at * ;refine RetP.drop (Or.inr rfl) ?_ ?_ hwf
     · simp only [Jd3,Ja9,Jb6,AV.tv,push_cast,simprocAttr]
     rfl)
 have ok0:=True.intro
 have U14:=ca3 @Ja6 g0 f0
 refine AW.w 9 U14 Tru fun K J1 K J2=>?_
 refine AW.w 6 @Ja6 Tru fun K J2=>?_
 refine AW.q fun K J3=>?_
 have hk1:f 1 < -16777216\/(¬f 1 < -16777216/\16777216<f 1)\/(¬f 1 < -16777216/\¬16777216<f 1):=by omega
 rcases hk1 with g1|⟨g1,f1⟩|⟨g1,f1⟩
 ·rw [show Jg7 f (-16777216) (16777216)=false from decide_eq_false (by omega)] at hQ
  have U15:=ca2 @Ja6 g1
  refine AW.w 5 U15 Tru ?_
  refine hQ _ _ _ ?_
  first
  | (refine RetP.drop0 (Or.inr rfl) ?_ ?_ hwf
     · simp only [Jd3,Ja9,Jb6,AV.tv,push_cast,simprocAttr]
     rfl)
  | (refine RetP.drop (Or.inr rfl) ?_ ?_ hwf
     · simp only [Jd3,Ja9,Jb6,AV.tv,push_cast,simprocAttr]
     rfl)
  | (rw [show Jg7 f (-16777216) (16777216)=true from decide_eq_true (by omega)] at * ;refine RetP.drop (Or.inr rfl) ?_ ?_ hwf
     · simp only [Jd3,Ja9,Jb6,AV.tv,push_cast,simprocAttr]
     rfl)
 ·rw [show Jg7 f (-16777216) (16777216)=false from decide_eq_false (by omega)] at hQ
  have U16:=ca3 @Ja6 g1 f1
  refine AW.w 5 U16 Tru ?_
  refine hQ _ _ _ ?_
  first
  | (refine RetP.drop0 (Or.inr rfl) ?_ ?_ hwf
     · simp only [Jd3,Ja9,Jb6,AV.tv,push_cast,simprocAttr]
     rfl)
  | (refine RetP.drop (Or.inr rfl) ?_ ?_ hwf
     · simp only [Jd3,Ja9,Jb6,AV.tv,push_cast,simprocAttr]
     rfl)
  | (rw [show Jg7 f (-16777216) (16777216)=true from decide_eq_true (by omega)] at * ;refine RetP.drop (Or.inr rfl) ?_ ?_ hwf
     · simp only [Jd3,Ja9,Jb6,AV.tv,push_cast,simprocAttr]
     rfl)
 have ok1:=True.intro
 have U17:=ca3 @Ja6 g1 f1
 refine AW.w 9 U17 Tru fun K J1 K J2=>?_
 refine AW.w 6 @Ja6 Tru fun K J2=>?_
 refine AW.q fun K J3=>?_
 have hk2:f 2 < -16777216\/(¬f 2 < -16777216/\16777216<f 2)\/(¬f 2 < -16777216/\¬16777216<f 2):=by omega
 rcases hk2 with g2|⟨g2,f2⟩|⟨g2,f2⟩
 ·rw [show Jg7 f (-16777216) (16777216)=false from decide_eq_false (by omega)] at hQ
  have U18:=ca2 @Ja6 g2
  refine AW.w 5 U18 Tru ?_
  refine hQ _ _ _ ?_
  first
  | (refine RetP.drop0 (Or.inr rfl) ?_ ?_ hwf
     · simp only [Jd3,Ja9,Jb6,AV.tv,push_cast,simprocAttr]
     rfl)
  | (refine RetP.drop (Or.inr rfl) ?_ ?_ hwf
     · simp only [Jd3,Ja9,Jb6,AV.tv,push_cast,simprocAttr]
     rfl)
  | (rw [show Jg7 f (-16777216) (16777216)=true from decide_eq_true (by omega)] at * ;refine RetP.drop (Or.inr rfl) ?_ ?_ hwf
     · simp only [Jd3,Ja9,Jb6,AV.tv,push_cast,simprocAttr]
     rfl)
 ·rw [show Jg7 f (-16777216) (16777216)=false from decide_eq_false (by omega)] at hQ
  have U19:=ca3 @Ja6 g2 f2
  refine AW.w 5 U19 Tru ?_
  refine hQ _ _ _ ?_
  first
  | (refine RetP.drop0 (Or.inr rfl) ?_ ?_ hwf
     · simp only [Jd3,Ja9,Jb6,AV.tv,push_cast,simprocAttr]
     rfl)
  | (refine RetP.drop (Or.inr rfl) ?_ ?_ hwf
     · simp only [Jd3,Ja9,Jb6,AV.tv,push_cast,simprocAttr]
     rfl)
  | (rw [show Jg7 f (-16777216) (16777216)=true from decide_eq_true (by omega)] at * ;refine RetP.drop (Or.inr rfl) ?_ ?_ hwf
     · simp only [Jd3,Ja9,Jb6,AV.tv,push_cast,simprocAttr]
     rfl)
 have ok2:=True.intro
 have U20:=ca3 @Ja6 g2 f2
 refine AW.w 9 U20 Tru fun K J1 K J2=>?_
 refine AW.w 6 @Ja6 Tru ?_
 refine hQ _ _ _ ?_
 first
 | (refine RetP.drop0 (Or.inr rfl) ?_ ?_ hwf
    · simp only [Jd3,Ja9,Jb6,AV.tv,push_cast,simprocAttr]
    rfl)
 | (refine RetP.drop (Or.inr rfl) ?_ ?_ hwf
    · simp only [Jd3,Ja9,Jb6,AV.tv,push_cast,simprocAttr]
    rfl)
 | (rw [show Jg7 f (-16777216) (16777216)=true from decide_eq_true (by omega)] at * ;refine RetP.drop (Or.inr rfl) ?_ ?_ hwf
    · simp only [Jd3,Ja9,Jb6,AV.tv,push_cast,simprocAttr]
    rfl)
def HdR (s:SC):Prop:=inB s.w 1 64=true/\inB s.h 1 64=true/\inB s.sm 1 16=true/\inB s.dp 1 6=true/\inB s.fr 1 32=true/\0<=s.sh/\s.sh<=65536/\Jg7 s.sk 0 1048576=true
instance (s:SC):Decidable (HdR s):=by unfold HdR;exact inferInstance
def PaR (s:SC)(i:Nat):Prop:=inB (s.pk i) 0 3=true/\Jg7 (s.pc i) 0 1048576=true/\0<=s.pr i/\s.pr i<=65536
instance (s:SC)(i:Nat):Decidable (PaR s i):=by unfold PaR;exact inferInstance
def JoR (s:SC)(i:Nat):Prop:=inB (s.jp i) (-1) ((i:Int) - 1)=true/\inB (s.jm i) (-1) ((s.nt:Int) - 1)=true/\inB (s.jt i) (-1) ((s.nt:Int) - 1)=true/\1<=s.js i/\s.js i<=4194304
instance (s:SC)(i:Nat):Decidable (JoR s i):=by unfold JoR;exact inferInstance
def LeR (s:SC):Prop:=inB s.ey 0 ((s.nt:Int) - 1)=true/\inB s.lk 0 ((s.nt:Int) - 1)=true/\1<=s.wd/\s.wd<=524288
instance (s:SC):Decidable (LeR s):=by unfold LeR;exact inferInstance
theorem Jd8 (s:SC):hdC s=(.int .i64 s.w::.int .i64 s.h::.int .i64 s.sm::.int .i64 s.dp::.int .i64 s.fr::.int .i64 s.sh::.int .u64 s.sd::c3C s.sk):=rfl
theorem rhd_c (s:SC)(m:Ja1):Ctr Tryz.prog 68 [.agg (hdC s)] m (.one (.bool (decide (HdR s)))) m:=by
 refine Ctr.en Tryz.func68 [.tmp 2] 41 fun hwf Q hQ=>?_
 rcases Vr2 (inB s.w 1 64=true) (inB s.h 1 64=true) (inB s.sm 1 16=true) (inB s.dp 1 6=true) (inB s.fr 1 32=true) (0<=s.sh) (s.sh<=65536) (Jg7 s.sk 0 1048576=true) with ⟨g1,g2,g3,g4,g5,g6,g7,g8⟩|⟨g1,g2,g3,g4,g5,g6,g7,g8⟩|⟨g1,g2,g3,g4,g5,g6,g7,g8⟩|⟨g1,g2,g3,g4,g5,g6,g7,g8⟩|⟨g1,g2,g3,g4,g5,g6,g7,g8⟩|⟨g1,g2,g3,g4,g5,g6,g7,g8⟩|⟨g1,g2,g3,g4,g5,g6,g7,g8⟩|⟨g1,g2,g3,g4,g5,g6,g7,g8⟩|⟨g1,g2,g3,g4,g5,g6,g7,g8⟩ <;>
 (
 try simp only [Bool.not_eq_true,Bool.not_eq_false,Classical.not_not] at g1 g2 g3 g4 g5 g6 g7 g8
 first
 | (have hz:(HdR s):=⟨g1,g2,g3,g4,g5,g6,g7,g8⟩
    rw [decide_eq_true hz] at hQ)
 | (have hz:¬(HdR s):=fun ⟨q1,q2,q3,q4,q5,q6,q7,q8⟩=>by
      first|exact g1 q1|(rw [g1] at q1;exact absurd q1 (by decide))|exact g2 q2|(rw [g2] at q2;exact absurd q2 (by decide))|exact g3 q3|(rw [g3] at q3;exact absurd q3 (by decide))|exact g4 q4|(rw [g4] at q4;exact absurd q4 (by decide))|exact g5 q5|(rw [g5] at q5;exact absurd q5 (by decide))|exact g6 q6|(rw [g6] at q6;exact absurd q6 (by decide))|exact g7 q7|(rw [g7] at q7;exact absurd q7 (by decide))|exact g8 q8|(rw [g8] at q8;exact absurd q8 (by decide))
    rw [decide_eq_false hz] at hQ)
 refine AW.sr 2 fun K J0=>?_
 have U1:=ca4 g1 g2 g3 (ca4 g4 g5 g6 (ca2 g7 g8))
 simp only [push_cast,simprocAttr,hdC,c3C,U1]
 refine CThen.by (Kb0 _ _ _ _) ?_
 simp only [push_cast,simprocAttr,hdC,c3C,U1]
 iterate 2
  try (refine CThen.by (Kb0 _ _ _ _) ?_;simp only [push_cast,simprocAttr,hdC,c3C,U1])
  try (refine CThen.by (Kb0 _ _ _ _) ?_;simp only [push_cast,simprocAttr,hdC,c3C,U1])
 try (refine CThen.by (Qx7 _ _) ?_;simp only [push_cast,simprocAttr,hdC,c3C,U1])
 apply J0
 have U2:=ca3 @Jd8 @Ja6 U1
 exact AW.f U2 Tru
 )
theorem pC_e (s:SC)(i:Nat):pC s i=([.int .i64 (s.pk i),.int .i64 (s.pc i 0),.int .i64 (s.pc i 1),.int .i64 (s.pc i 2),.int .i64 (s.pr i)]):=rfl
theorem rpa_c (s:SC)(i:Nat)(m:Ja1):Ctr Tryz.prog 69 [.agg (pC s i)] m (.one (.bool (decide (PaR s i)))) m:=by
 refine Ctr.en Tryz.func69 [.tmp 2] 21 fun hwf Q hQ=>?_
 rcases Kd1 (inB (s.pk i) 0 3=true) (Jg7 (s.pc i) 0 1048576=true) (0<=s.pr i) (s.pr i<=65536) with ⟨g1,g2,g3,g4⟩|⟨g1,g2,g3,g4⟩|⟨g1,g2,g3,g4⟩|⟨g1,g2,g3,g4⟩|⟨g1,g2,g3,g4⟩ <;>
 (
 try simp only [Bool.not_eq_true,Bool.not_eq_false,Classical.not_not] at g1 g2 g3 g4
 first
 | (have hz:(PaR s i):=⟨g1,g2,g3,g4⟩
    rw [decide_eq_true hz] at hQ)
 | (have hz:¬(PaR s i):=fun ⟨q1,q2,q3,q4⟩=>by
      first|exact g1 q1|(rw [g1] at q1;exact absurd q1 (by decide))|exact g2 q2|(rw [g2] at q2;exact absurd q2 (by decide))|exact g3 q3|(rw [g3] at q3;exact absurd q3 (by decide))|exact g4 q4|(rw [g4] at q4;exact absurd q4 (by decide))
    rw [decide_eq_false hz] at hQ)
 refine AW.sr 2 fun K J0=>?_
 have U3:=ca4 g1 g2 g3 g4
 simp only [push_cast,simprocAttr,pC,c3C,U3]
 refine CThen.by (Kb0 _ _ _ _) ?_
 simp only [push_cast,simprocAttr,pC,c3C,U3]
 try (refine CThen.by (Qx7 (s.pc i) _) ?_;simp only [push_cast,simprocAttr,pC,c3C,U3])
 apply J0
 have U4:=ca3 @pC_e @Ja6 U3
 exact AW.f U4 Tru
 )
theorem Je1 (s:SC)(R:RWs):scC s R=(hdC s++tlC s R):=rfl
theorem Je0 (s:SC)(R:RWs):tlC s R=([.int .i64 s.ey,.int .i64 s.lk,.int .i64 s.wd,.sl R.p R.vp 0 s.np,.sl R.t R.vt 0 s.nt,.sl R.j R.vj 0 s.nj,.sl R.x R.vx 0 s.nx]):=rfl
theorem rle_c (s:SC)(R:RWs)(m:Ja1)(hn:s.nt<=1000000000000):Ctr Tryz.prog 73 [.agg (scC s R)] m (.one (.bool (decide (LeR s)))) m:=by
 refine Ctr.en Tryz.func73 [.tmp 2] 29 fun hwf Q hQ=>?_
 have w:=(show IntKind.i64.wrap ((s.nt:Int) - 1)=(s.nt:Int) - 1 from wi (by omega))
 rcases Kd1 (inB s.ey 0 ((s.nt:Int) - 1)=true) (inB s.lk 0 ((s.nt:Int) - 1)=true) (1<=s.wd) (s.wd<=524288) with ⟨g1,g2,g3,g4⟩|⟨g1,g2,g3,g4⟩|⟨g1,g2,g3,g4⟩|⟨g1,g2,g3,g4⟩|⟨g1,g2,g3,g4⟩ <;>
 (
 try simp only [Bool.not_eq_true,Bool.not_eq_false,Classical.not_not] at g1 g2 g3 g4
 first
 | (have hz:(LeR s):=⟨g1,g2,g3,g4⟩
    rw [decide_eq_true hz] at hQ)
 | (have hz:¬(LeR s):=fun ⟨q1,q2,q3,q4⟩=>by
      first|exact g1 q1|(rw [g1] at q1;exact absurd q1 (by decide))|exact g2 q2|(rw [g2] at q2;exact absurd q2 (by decide))|exact g3 q3|(rw [g3] at q3;exact absurd q3 (by decide))|exact g4 q4|(rw [g4] at q4;exact absurd q4 (by decide))
    rw [decide_eq_false hz] at hQ)
 refine AW.sr 2 fun K J0=>?_
 have U1:=ca4 g1 g2 g3 (ca2 g4 w)
 simp only [push_cast,simprocAttr,scC,hdC,tlC,c3C,U1]
 refine CThen.by (Kb0 _ _ _ _) ?_
 simp only [push_cast,simprocAttr,scC,hdC,tlC,c3C,U1]
 try (refine CThen.by (Kb0 _ _ _ _) ?_;simp only [push_cast,simprocAttr,scC,hdC,tlC,c3C,U1])
 apply J0
 have U2:=ca4 @Je1 @Jd8 @Je0 (ca2 @Ja6 U1)
 exact AW.f U2 Tru
 )
theorem rjo_c (s:SC)(R:RWs)(i:Nat)(m:Ja1)(hn:s.nt<=1000000000000)(hj:∃ k e,m[R.j]?=some ⟨k,146,R.vj,e,Jb0 s.nj (jC s)⟩)(hi:i<s.nj)(hnj:s.nj<=1000000000000):Ctr Tryz.prog 71 [.agg (scC s R),.one (.int .i64 (i:Int))] m (.one (.bool (decide (JoR s i)))) m:=by
 refine Ctr.en Tryz.func71 [.tmp 4] 44 fun hwf Q hQ=>?_
 obtain ⟨kj,ej,hj⟩:=hj
 have lj:=Ja8 hj
 have w:=(show IntKind.i64.wrap ((s.nt:Int) - 1)=(s.nt:Int) - 1 from wi (by omega))
 have w2:=(show IntKind.i64.wrap ((i:Int) - 1)=(i:Int) - 1 from wi (by omega))
 have jl:(Jb0 s.nj (jC s)).length=s.nj*4:=Ja5 (w:=4) (F:=jC s) (fun _=>rfl) _
 have ja:((Jb0 s.nj (jC s)).drop (i*4)).take 4=jC s i:=Jb5 (w:=4) (F:=jC s) (fun _=>rfl) hi
 have c1:(0:Int)<=(i:Int):=by omega
 have c2:(i:Int)<(s.nj:Int):=by omega
 have c3:i*4+4<=s.nj*4:=by omega
 have ej0:=Qy1 s i
 rcases Qh5 (inB (s.jp i) (-1) ((i:Int) - 1)=true) (inB (s.jm i) (-1) ((s.nt:Int) - 1)=true) (inB (s.jt i) (-1) ((s.nt:Int) - 1)=true) (1<=s.js i) (s.js i<=4194304) with ⟨g1,g2,g3,g4,g5⟩|⟨g1,g2,g3,g4,g5⟩|⟨g1,g2,g3,g4,g5⟩|⟨g1,g2,g3,g4,g5⟩|⟨g1,g2,g3,g4,g5⟩|⟨g1,g2,g3,g4,g5⟩ <;>
 (
 try simp only [Bool.not_eq_true,Bool.not_eq_false,Classical.not_not] at g1 g2 g3 g4 g5
 first
 | (have hz:(JoR s i):=⟨g1,g2,g3,g4,g5⟩
    rw [decide_eq_true hz] at hQ)
 | (have hz:¬(JoR s i):=fun ⟨q1,q2,q3,q4,q5⟩=>by
      first|exact g1 q1|(rw [g1] at q1;exact absurd q1 (by decide))|exact g2 q2|(rw [g2] at q2;exact absurd q2 (by decide))|exact g3 q3|(rw [g3] at q3;exact absurd q3 (by decide))|exact g4 q4|(rw [g4] at q4;exact absurd q4 (by decide))|exact g5 q5|(rw [g5] at q5;exact absurd q5 (by decide))
    rw [decide_eq_false hz] at hQ)
 refine AW.sr 3 fun K J0=>?_
 have U3:=ca4 g1 g2 g3 (ca4 g4 g5 w (ca4 w2 hj (Ja3 hj) (ca4 jl ja c1 (ca3 c2 c3 ej0))))
 simp only [push_cast,simprocAttr,scC,hdC,tlC,c3C,U3]
 refine CThen.by (Kb0 _ _ _ _) ?_
 simp only [push_cast,simprocAttr,scC,hdC,tlC,c3C,U3]
 try (refine CThen.by (Kb0 _ _ _ _) ?_;simp only [push_cast,simprocAttr,scC,hdC,tlC,c3C,U3])
 try (refine CThen.by (Kb0 _ _ _ _) ?_;simp only [push_cast,simprocAttr,scC,hdC,tlC,c3C,U3])
 apply J0
 have U4:=ca4 @Je1 @Jd8 @Je0 (ca2 @Ja6 U3)
 exact AW.f U4 Tru
 )
def keC (T:Nat->Int)(V:Nat->Nat->Int)(j:Nat):List CV:=[.int .i64 (T j),.int .i64 (V j 0),.int .i64 (V j 1),.int .i64 (V j 2)]
theorem Jo8 (T:Nat->Int)(V:Nat->Nat->Int)(j:Nat):keC T V j=[.int .i64 (T j),.int .i64 (V j 0),.int .i64 (V j 1),.int .i64 (V j 2)]:=rfl
def KeR (T:Nat->Int)(V:Nat->Nat->Int)(j:Nat):Prop:=0<=T j/\T j<=2097152/\(0<j->T (j - 1)<T j)/\∀ a,a<3->-2147483648<=V j a/\V j a<=2147483648
instance (T:Nat->Int)(V:Nat->Nat->Int)(j:Nat):Decidable (KeR T V j):=by unfold KeR;exact inferInstance
def TrR (w:Int)(n:Nat)(T:Nat->Int)(V:Nat->Nat->Int):Prop:=0<=w/\w<=2/\1<=n/\n<=16/\∀ j,j<n->KeR T V j
instance (w:Int)(n:Nat)(T:Nat->Int)(V:Nat->Nat->Int):Decidable (TrR w n T V):=by unfold TrR;exact inferInstance
theorem Jc0 (f:Nat->Int)(m:Ja1):Ctr Tryz.prog 175 [.agg (c3C f),.one (.int .i64 0)] m (.one (.int .i64 (f 0))) m:=by
 exact Ctr.f Tryz.func175 [.tmp 4] 16 @Ja6 Tru
theorem Jc7 (f:Nat->Int)(m:Ja1):Ctr Tryz.prog 175 [.agg (c3C f),.one (.int .i64 1)] m (.one (.int .i64 (f 1))) m:=by
 exact Ctr.f Tryz.func175 [.tmp 4] 16 @Ja6 Tru
theorem Je2 (f:Nat->Int)(m:Ja1):Ctr Tryz.prog 175 [.agg (c3C f),.one (.int .i64 2)] m (.one (.int .i64 (f 2))) m:=by
 exact Ctr.f Tryz.func175 [.tmp 4] 16 @Ja6 Tru
theorem Kn8 (w:Int)(r v n:Nat)(T:Nat->Int)(V:Nat->Nat->Int)(m:Ja1)(hr:∃ k e,m[r]?=some ⟨k,285,v,e,Jb0 n (keC T V)⟩):Ctr Tryz.prog 70 [.agg [.int .i64 w,.sl r v 0 n]] m (.one (.bool (decide (TrR w n T V)))) m:=by
 refine Ctr.en Tryz.func70 [.tmp 2] 76 fun hwf Q hQ=>?_
 obtain ⟨kk,ek,hr⟩:=hr
 have lr:=Ja8 hr
 have gl:(Jb0 n (keC T V)).length=n*4:=Ja5 (w:=4) (F:=keC T V) (fun _=>rfl) n
 have hbad:∀ {P:Prop},¬TrR w n T V->P=P:=fun _=>rfl
 have U1:=ca3 hr (Ja3 hr) gl
 refine AW.w 2 U1 Tru fun K J0=>?_
 refine AW.q fun K J1=>?_
 have hk:w<0\/(¬w<0/\2<w)\/(¬w<0/\¬2<w/\(n:Int)<1)\/(¬w<0/\¬2<w/\¬(n:Int)<1/\16<(n:Int))\/(¬w<0/\¬2<w/\¬(n:Int)<1/\¬16<(n:Int)):=by omega
 rcases hk with g1|⟨g1,g2⟩|⟨g1,g2,g3⟩|⟨g1,g2,g3,g4⟩|⟨g1,g2,g3,g4⟩
 ·rw [show decide (TrR w n T V)=false from decide_eq_false (fun h=>by have q1:=h.1;have q2:=h.2.1;have q3:=h.2.2.1;have q4:=h.2.2.2.1;omega)] at hQ
  have U2:=ca2 U1 g1
  exact AW.f U2 Tru
 ·rw [show decide (TrR w n T V)=false from decide_eq_false (fun h=>by have q1:=h.1;have q2:=h.2.1;have q3:=h.2.2.1;have q4:=h.2.2.2.1;omega)] at hQ
  have U3:=ca3 U1 g1 g2
  exact AW.f U3 Tru
 ·rw [show decide (TrR w n T V)=false from decide_eq_false (fun h=>by have q1:=h.1;have q2:=h.2.1;have q3:=h.2.2.1;have q4:=h.2.2.2.1;omega)] at hQ
  have U4:=ca4 U1 g1 g2 g3
  exact AW.f U4 Tru
 ·rw [show decide (TrR w n T V)=false from decide_eq_false (fun h=>by have q1:=h.1;have q2:=h.2.1;have q3:=h.2.2.1;have q4:=h.2.2.2.1;omega)] at hQ
  have U5:=ca4 U1 g1 g2 (ca2 g3 g4)
  exact AW.f U5 Tru
 have hn1:n<=16:=by omega
 have U6:=ca4 U1 g1 g2 (ca2 g3 g4)
 refine AW.w 8 U6 Tru fun K J0=>?_
 refine AW.loopK [1] (fun i=>i<=n/\∀ k,k<i->KeR T V k) (fun i=>[(3,.one (.int .i64 (i:Int)))]) (fun i=>[]) (fun i=>n - i) 0 ⟨by omega,fun k hk=>by omega⟩ ?_ ?_ fun i hi4=>?_
 · first|rfl|(simp only [KS,simprocAttr,Int.natCast_zero]<;>repeat' (first|rfl|apply And.intro))
 · first|rfl|(simp only [Ja4,push_cast,simprocAttr,U6,Int.natCast_zero]<;>rfl)
 obtain ⟨hin,hok⟩:=hi4
 try simp only [Jb3,Ja4,push_cast,simprocAttr,U6]
 refine AW.w 2 U6 Tru fun K J1=>?_
 refine AW.cond rfl (fun h30=>?_) (fun h30=>?_)
 ·have hlt:i<n:=by have:=of_decide_eq_true h30;omega
  have c1:(0:Int)<=(i:Int):=by omega
  have c2:(i:Int)<(n:Int):=by omega
  have c3:i*4+4<=n*4:=by omega
  have ga:=Jb5 (w:=4) (F:=keC T V) (fun _=>rfl) hlt
  have gk:=Jo8 T V i
  have gv:c3C (V i)=[.int .i64 (V i 0),.int .i64 (V i 1),.int .i64 (V i 2)]:=rfl
  refine AW.w 4 Tru Tru fun K J1=>?_
  have U7:=ca4 U6 c1 c2 (ca3 c3 ga gk)
  refine AW.w 2 U7 Tru fun K J2=>?_
  refine AW.q fun K J3=>?_
  have hk:T i<0\/(¬T i<0/\2097152<T i)\/(¬T i<0/\¬2097152<T i/\i=0)\/(¬T i<0/\¬2097152<T i/\0<i/\T i<=T (i - 1))\/(¬T i<0/\¬2097152<T i/\0<i/\¬T i<=T (i - 1)):=by omega
  rcases hk with e1|⟨e1,e2⟩|⟨e1,e2,e3⟩|⟨e1,e2,e3,e4⟩|⟨e1,e2,e3,e4⟩
  ·rw [show decide (TrR w n T V)=false from decide_eq_false (fun h9=>(fun h:KeR T V i=>(by have h1:=h.1;omega)) (h9.2.2.2.2 i hlt))] at hQ
   have U8:=ca2 U7 e1
   exact AW.fd [[.val,.rd 0,.val,.val,.val,.rd 0,.val,.val,.val,.val,.val,.val,.val,.rd 0,.val,.rd 0,.val,.val,.val,.val,.rd 0,.val,.val,.val]] U8 Tru
  ·rw [show decide (TrR w n T V)=false from decide_eq_false (fun h9=>(fun h:KeR T V i=>(by have h1:=h.2.1;omega)) (h9.2.2.2.2 i hlt))] at hQ
   have U9:=ca3 U7 e1 e2
   exact AW.fd [[.val,.rd 0,.val,.val,.val,.rd 0,.val,.val,.val,.val,.val,.val,.val,.rd 0,.val,.rd 0,.val,.val,.val,.val,.rd 0,.val,.val,.val]] U9 Tru
  ·have e5:¬(0:Int)<(i:Int):=by omega
   have e6:0<i->T (i - 1)<T i:=fun h=>by omega
   have U10:=ca4 U7 e1 e2 e5
   refine AW.wd [[.val,.rd 0,.val,.val,.val,.rd 0,.val,.val,.val,.val,.val,.val,.val,.rd 0,.val,.rd 0,.val,.val,.val,.val,.rd 0,.val,.val,.val]] 7 U10 Tru ?_
   refine AW.r 4 ?_
   refine AW.w 8 U10 Tru fun K J2 K J3=>?_
   refine AW.q fun K J4=>?_
   have hk0:(-2147483648<=V i 0/\V i 0<=2147483648)\/¬(-2147483648<=V i 0/\V i 0<=2147483648):=Classical.em _
   rcases hk0 with f0|f0
   ·have b0:(V i 0 !=Ja2 (V i 0))=false:=by rw [Jc1 f0];exact bne_self_eq_false _
    have U11:=ca2 U10 b0
    refine AW.wd [[.val,.val,.val,.rd 0,.val,.val,.val,.rd 0,.ext,.val]] 9 U11 Jh4 fun K J2 K J3=>?_
    refine AW.w 6 U10 Tru fun K J3=>?_
    refine AW.q fun K J4=>?_
    have hk1:(-2147483648<=V i 1/\V i 1<=2147483648)\/¬(-2147483648<=V i 1/\V i 1<=2147483648):=Classical.em _
    rcases hk1 with f1|f1
    ·have b1:(V i 1 !=Ja2 (V i 1))=false:=by rw [Jc1 f1];exact bne_self_eq_false _
     have U12:=ca2 U10 b1
     refine AW.wd [[.val,.val,.val,.rd 0,.val,.val,.val,.rd 0,.ext,.val]] 9 U12 Jh4 fun K J2 K J3=>?_
     refine AW.w 6 U10 Tru fun K J3=>?_
     refine AW.q fun K J4=>?_
     have hk2:(-2147483648<=V i 2/\V i 2<=2147483648)\/¬(-2147483648<=V i 2/\V i 2<=2147483648):=Classical.em _
     rcases hk2 with f2|f2
     ·have b2:(V i 2 !=Ja2 (V i 2))=false:=by rw [Jc1 f2];exact bne_self_eq_false _
      have U13:=ca2 U10 b2
      refine AW.wd [[.val,.val,.val,.rd 0,.val,.val,.val,.rd 0,.ext,.val]] 9 U13 Jh4 fun K J2 K J3=>?_
      refine AW.w 5 U10 Tru ?_
      have hwi:IntKind.i64.wrap ((i:Int)+1)=(i:Int)+1:=wi (by omega)
      have hnow:KeR T V i:=⟨by omega,by omega,e6,fun a ha=>by
        match a,ha with
        | 0,_=>omega
        | 1,_=>omega
        | 2,_=>omega⟩
      exact Wj (i+1) U10 hwi Tru (hI:=⟨by omega,fun k hk=>by
        rcases Nat.lt_or_ge k i with h|h
        · exact hok k h
        obtain rfl:k=i:=by omega
        exact hnow⟩)
     have b2:(V i 2 !=Ja2 (V i 2))=true:=by
       have:=Jc3 (V i 2)
       exact bne_iff_ne.2 fun e=>by rw [e] at f2;exact f2 this
     rw [show decide (TrR w n T V)=false from decide_eq_false (fun h9=>(fun h:KeR T V i=>f2 (h.2.2.2 2 (by omega))) (h9.2.2.2.2 i hlt))] at hQ
     have U14:=ca2 U10 b2
     exact AW.fd [[.val,.val,.val,.rd 0,.val,.val,.val,.rd 0,.ext,.val]] U14 Jh4
    have b1:(V i 1 !=Ja2 (V i 1))=true:=by
      have:=Jc3 (V i 1)
      exact bne_iff_ne.2 fun e=>by rw [e] at f1;exact f1 this
    rw [show decide (TrR w n T V)=false from decide_eq_false (fun h9=>(fun h:KeR T V i=>f1 (h.2.2.2 1 (by omega))) (h9.2.2.2.2 i hlt))] at hQ
    have U15:=ca2 U10 b1
    exact AW.fd [[.val,.val,.val,.rd 0,.val,.val,.val,.rd 0,.ext,.val]] U15 Jh4
   have b0:(V i 0 !=Ja2 (V i 0))=true:=by
     have:=Jc3 (V i 0)
     exact bne_iff_ne.2 fun e=>by rw [e] at f0;exact f0 this
   rw [show decide (TrR w n T V)=false from decide_eq_false (fun h9=>(fun h:KeR T V i=>f0 (h.2.2.2 0 (by omega))) (h9.2.2.2.2 i hlt))] at hQ
   have U16:=ca2 U10 b0
   exact AW.fd [[.val,.val,.val,.rd 0,.val,.val,.val,.rd 0,.ext,.val]] U16 Jh4
  ·rw [show decide (TrR w n T V)=false from decide_eq_false (fun h9=>(fun h:KeR T V i=>(by have h1:=h.2.2.1 e3;omega)) (h9.2.2.2.2 i hlt))] at hQ
   have e5:(0:Int)<(i:Int):=by omega
   obtain ⟨j,hj⟩:∃ j,j=i - 1:=⟨_,rfl⟩
   have p1:IntKind.i64.wrap ((i:Int) - 1)=(j:Int):=by rw [wi (by omega)];omega
   have p2:(0:Int)<=(j:Int):=by omega
   have p3:(j:Int)<(n:Int):=by omega
   have p4:j*4+4<=n*4:=by omega
   have p5:j<n:=by omega
   have ha:=Jb5 (w:=4) (F:=keC T V) (fun _=>rfl) p5
   rw [<-hj] at e4
   have p6:(Jb0 n (keC T V))[j*4]?=some (.int .i64 (T j)):=Ji4 (w:=4) (F:=keC T V) (fun _=>rfl) p5 (a:=0) (by omega)
   have U17:=ca4 U7 e1 e2 (ca4 e4 e5 p1 (ca4 p2 p3 p4 (ca3 p5 p6 ha)))
   exact AW.fd [[.val,.rd 0,.val,.val,.val,.rd 0,.val,.val,.val,.val,.val,.val,.val,.rd 0,.val,.rd 0,.val,.val,.val,.val,.rd 0,.val,.val,.val]] U17 Tru
  have e5:(0:Int)<(i:Int):=by omega
  obtain ⟨j,hj⟩:∃ j,j=i - 1:=⟨_,rfl⟩
  have p1:IntKind.i64.wrap ((i:Int) - 1)=(j:Int):=by rw [wi (by omega)];omega
  have p2:(0:Int)<=(j:Int):=by omega
  have p3:(j:Int)<(n:Int):=by omega
  have p4:j*4+4<=n*4:=by omega
  have p5:j<n:=by omega
  have ha:=Jb5 (w:=4) (F:=keC T V) (fun _=>rfl) p5
  rw [<-hj] at e4
  have p6:(Jb0 n (keC T V))[j*4]?=some (.int .i64 (T j)):=Ji4 (w:=4) (F:=keC T V) (fun _=>rfl) p5 (a:=0) (by omega)
  have e6:0<i->T (i - 1)<T i:=fun _=>by rw [<-hj];omega
  have U18:=ca4 U7 e1 e2 (ca4 e4 e5 p1 (ca4 p2 p3 p4 (ca3 p5 p6 ha)))
  refine AW.wd [[.val,.rd 0,.val,.val,.val,.rd 0,.val,.val,.val,.val,.val,.val,.val,.rd 0,.val,.rd 0,.val,.val,.val,.val,.rd 0,.val,.val,.val]] 7 U18 Tru ?_
  refine AW.r 4 ?_
  refine AW.w 8 U18 Tru fun K J2 K J3=>?_
  refine AW.q fun K J4=>?_
  have hk0:(-2147483648<=V i 0/\V i 0<=2147483648)\/¬(-2147483648<=V i 0/\V i 0<=2147483648):=Classical.em _
  rcases hk0 with f0|f0
  ·have b0:(V i 0 !=Ja2 (V i 0))=false:=by rw [Jc1 f0];exact bne_self_eq_false _
   have U19:=ca2 U18 b0
   refine AW.wd [[.val,.val,.val,.rd 0,.val,.val,.val,.rd 0,.ext,.val]] 9 U19 Jh4 fun K J2 K J3=>?_
   refine AW.w 6 U18 Tru fun K J3=>?_
   refine AW.q fun K J4=>?_
   have hk1:(-2147483648<=V i 1/\V i 1<=2147483648)\/¬(-2147483648<=V i 1/\V i 1<=2147483648):=Classical.em _
   rcases hk1 with f1|f1
   ·have b1:(V i 1 !=Ja2 (V i 1))=false:=by rw [Jc1 f1];exact bne_self_eq_false _
    have U20:=ca2 U18 b1
    refine AW.wd [[.val,.val,.val,.rd 0,.val,.val,.val,.rd 0,.ext,.val]] 9 U20 Jh4 fun K J2 K J3=>?_
    refine AW.w 6 U18 Tru fun K J3=>?_
    refine AW.q fun K J4=>?_
    have hk2:(-2147483648<=V i 2/\V i 2<=2147483648)\/¬(-2147483648<=V i 2/\V i 2<=2147483648):=Classical.em _
    rcases hk2 with f2|f2
    ·have b2:(V i 2 !=Ja2 (V i 2))=false:=by rw [Jc1 f2];exact bne_self_eq_false _
     have U21:=ca2 U18 b2
     refine AW.wd [[.val,.val,.val,.rd 0,.val,.val,.val,.rd 0,.ext,.val]] 9 U21 Jh4 fun K J2 K J3=>?_
     refine AW.w 5 U18 Tru ?_
     have hwi:IntKind.i64.wrap ((i:Int)+1)=(i:Int)+1:=wi (by omega)
     have hnow:KeR T V i:=⟨by omega,by omega,e6,fun a ha=>by
       match a,ha with
       | 0,_=>omega
       | 1,_=>omega
       | 2,_=>omega⟩
     exact Wj (i+1) U18 hwi Tru (hI:=⟨by omega,fun k hk=>by
       rcases Nat.lt_or_ge k i with h|h
       · exact hok k h
       obtain rfl:k=i:=by omega
       exact hnow⟩)
    have b2:(V i 2 !=Ja2 (V i 2))=true:=by
      have:=Jc3 (V i 2)
      exact bne_iff_ne.2 fun e=>by rw [e] at f2;exact f2 this
    rw [show decide (TrR w n T V)=false from decide_eq_false (fun h9=>(fun h:KeR T V i=>f2 (h.2.2.2 2 (by omega))) (h9.2.2.2.2 i hlt))] at hQ
    have U22:=ca2 U18 b2
    exact AW.fd [[.val,.val,.val,.rd 0,.val,.val,.val,.rd 0,.ext,.val]] U22 Jh4
   have b1:(V i 1 !=Ja2 (V i 1))=true:=by
     have:=Jc3 (V i 1)
     exact bne_iff_ne.2 fun e=>by rw [e] at f1;exact f1 this
   rw [show decide (TrR w n T V)=false from decide_eq_false (fun h9=>(fun h:KeR T V i=>f1 (h.2.2.2 1 (by omega))) (h9.2.2.2.2 i hlt))] at hQ
   have U23:=ca2 U18 b1
   exact AW.fd [[.val,.val,.val,.rd 0,.val,.val,.val,.rd 0,.ext,.val]] U23 Jh4
  have b0:(V i 0 !=Ja2 (V i 0))=true:=by
    have:=Jc3 (V i 0)
    exact bne_iff_ne.2 fun e=>by rw [e] at f0;exact f0 this
  rw [show decide (TrR w n T V)=false from decide_eq_false (fun h9=>(fun h:KeR T V i=>f0 (h.2.2.2 0 (by omega))) (h9.2.2.2.2 i hlt))] at hQ
  have U24:=ca2 U18 b0
  exact AW.fd [[.val,.val,.val,.rd 0,.val,.val,.val,.rd 0,.ext,.val]] U24 Jh4
 have hie:i=n:=by have:=of_decide_eq_false h30;omega
 rw [show decide (TrR w n T V)=true from decide_eq_true ⟨by omega,by omega,by omega,by omega,fun k hk=>hok k (by omega)⟩] at hQ
 exact AW.f U6 Tru
theorem Kp2 (w:Int)(r v n:Nat)(T:Nat->Int)(V:Nat->Nat->Int)(m:Ja1)(hr:∃ k e,m[r]?=some ⟨k,223,v,e,Jb0 n (keC T V)⟩):Ctr Tryz.prog 95 [.agg [.int .i64 w,.sl r v 0 n]] m (.one (.bool (decide (TrR w n T V)))) m:=by
 refine Ctr.en Tryz.func95 [.tmp 2] 74 fun hwf Q hQ=>?_
 obtain ⟨kk,ek,hr⟩:=hr
 have lr:=Ja8 hr
 have gl:(Jb0 n (keC T V)).length=n*4:=Ja5 (w:=4) (F:=keC T V) (fun _=>rfl) n
 have hbad:∀ {P:Prop},¬TrR w n T V->P=P:=fun _=>rfl
 have U25:=ca3 hr (Ja3 hr) gl
 refine AW.w 2 U25 Tru fun K J0=>?_
 refine AW.q fun K J1=>?_
 have hk:w<0\/(¬w<0/\2<w)\/(¬w<0/\¬2<w/\(n:Int)<1)\/(¬w<0/\¬2<w/\¬(n:Int)<1/\16<(n:Int))\/(¬w<0/\¬2<w/\¬(n:Int)<1/\¬16<(n:Int)):=by omega
 rcases hk with g1|⟨g1,g2⟩|⟨g1,g2,g3⟩|⟨g1,g2,g3,g4⟩|⟨g1,g2,g3,g4⟩
 ·rw [show decide (TrR w n T V)=false from decide_eq_false (fun h=>by have q1:=h.1;have q2:=h.2.1;have q3:=h.2.2.1;have q4:=h.2.2.2.1;omega)] at hQ
  have U26:=ca2 U25 g1
  exact AW.f U26 Tru
 ·rw [show decide (TrR w n T V)=false from decide_eq_false (fun h=>by have q1:=h.1;have q2:=h.2.1;have q3:=h.2.2.1;have q4:=h.2.2.2.1;omega)] at hQ
  have U27:=ca3 U25 g1 g2
  exact AW.f U27 Tru
 ·rw [show decide (TrR w n T V)=false from decide_eq_false (fun h=>by have q1:=h.1;have q2:=h.2.1;have q3:=h.2.2.1;have q4:=h.2.2.2.1;omega)] at hQ
  have U28:=ca4 U25 g1 g2 g3
  exact AW.f U28 Tru
 ·rw [show decide (TrR w n T V)=false from decide_eq_false (fun h=>by have q1:=h.1;have q2:=h.2.1;have q3:=h.2.2.1;have q4:=h.2.2.2.1;omega)] at hQ
  have U29:=ca4 U25 g1 g2 (ca2 g3 g4)
  exact AW.f U29 Tru
 have hn1:n<=16:=by omega
 have U30:=ca4 U25 g1 g2 (ca2 g3 g4)
 refine AW.w 8 U30 Tru fun K J0=>?_
 refine AW.loopK [1,28,29] (fun i=>i<=n/\∀ k,k<i->KeR T V k) (fun i=>[(30,.one (.int .i64 (i:Int)))]) (fun i=>[]) (fun i=>n - i) 0 ⟨by omega,fun k hk=>by omega⟩ ?_ ?_ fun i hi4=>?_
 · first|rfl|(simp only [KS,simprocAttr,Int.natCast_zero]<;>repeat' (first|rfl|apply And.intro))
 · first|rfl|(simp only [Ja4,push_cast,simprocAttr,U30,Int.natCast_zero]<;>rfl)
 obtain ⟨hin,hok⟩:=hi4
 try simp only [Jb3,Ja4,push_cast,simprocAttr,U30]
 refine AW.w 2 U30 Tru fun K J1=>?_
 refine AW.cond rfl (fun h31=>?_) (fun h31=>?_)
 ·have hlt:i<n:=by have:=of_decide_eq_true h31;omega
  have c1:(0:Int)<=(i:Int):=by omega
  have c2:(i:Int)<(n:Int):=by omega
  have c3:i*4+4<=n*4:=by omega
  have ga:=Jb5 (w:=4) (F:=keC T V) (fun _=>rfl) hlt
  have gk:=Jo8 T V i
  have gv:c3C (V i)=[.int .i64 (V i 0),.int .i64 (V i 1),.int .i64 (V i 2)]:=rfl
  refine AW.w 4 Tru Tru fun K J1=>?_
  have U31:=ca4 U30 c1 c2 (ca3 c3 ga gk)
  refine AW.w 2 U31 Tru fun K J2=>?_
  refine AW.q fun K J3=>?_
  have hk:T i<0\/(¬T i<0/\2097152<T i)\/(¬T i<0/\¬2097152<T i/\i=0)\/(¬T i<0/\¬2097152<T i/\0<i/\T i<=T (i - 1))\/(¬T i<0/\¬2097152<T i/\0<i/\¬T i<=T (i - 1)):=by omega
  rcases hk with e1|⟨e1,e2⟩|⟨e1,e2,e3⟩|⟨e1,e2,e3,e4⟩|⟨e1,e2,e3,e4⟩
  ·rw [show decide (TrR w n T V)=false from decide_eq_false (fun h9=>(fun h:KeR T V i=>(by have h1:=h.1;omega)) (h9.2.2.2.2 i hlt))] at hQ
   have U32:=ca2 U31 e1
   exact AW.fd [[.val,.rd 0,.val,.val,.val,.rd 0,.val,.val,.val,.val,.val,.val,.val,.rd 0,.val,.val,.val,.val,.rd 0,.val,.rd 0,.val,.val,.val]] U32 Tru
  ·rw [show decide (TrR w n T V)=false from decide_eq_false (fun h9=>(fun h:KeR T V i=>(by have h1:=h.2.1;omega)) (h9.2.2.2.2 i hlt))] at hQ
   have U33:=ca3 U31 e1 e2
   exact AW.fd [[.val,.rd 0,.val,.val,.val,.rd 0,.val,.val,.val,.val,.val,.val,.val,.rd 0,.val,.val,.val,.val,.rd 0,.val,.rd 0,.val,.val,.val]] U33 Tru
  ·have e5:¬(0:Int)<(i:Int):=by omega
   have e6:0<i->T (i - 1)<T i:=fun h=>by omega
   have U34:=ca4 U31 e1 e2 e5
   refine AW.wd [[.val,.rd 0,.val,.val,.val,.rd 0,.val,.val,.val,.val,.val,.val,.val,.rd 0,.val,.val,.val,.val,.rd 0,.val,.rd 0,.val,.val,.val]] 7 U34 Tru ?_
   refine AW.r 4 ?_
   refine AW.w 7 U34 (Jc0 (V i)) fun K J2 K J3=>?_
   refine AW.q fun K J4=>?_
   have hk0:V i 0 < -2147483648\/(¬V i 0 < -2147483648/\2147483648<V i 0)\/(¬V i 0 < -2147483648/\¬2147483648<V i 0):=by omega
   rcases hk0 with f0|⟨f0,b0⟩|⟨f0,b0⟩
   ·rw [show decide (TrR w n T V)=false from decide_eq_false (fun h9=>(fun h:KeR T V i=>(by have:=h.2.2.2 0 (by omega);omega)) (h9.2.2.2.2 i hlt))] at hQ
    have U35:=ca2 U34 f0
    exact AW.f U35 Tru
   ·rw [show decide (TrR w n T V)=false from decide_eq_false (fun h9=>(fun h:KeR T V i=>(by have:=h.2.2.2 0 (by omega);omega)) (h9.2.2.2.2 i hlt))] at hQ
    have U36:=ca3 U34 f0 b0
    exact AW.f U36 Tru
   have ok0:=True.intro
   have U37:=ca3 U34 f0 b0
   refine AW.w 8 U37 Tru fun K J2=>?_
   refine AW.w 6 U34 (Jc7 (V i)) fun K J3=>?_
   refine AW.q fun K J4=>?_
   have hk1:V i 1 < -2147483648\/(¬V i 1 < -2147483648/\2147483648<V i 1)\/(¬V i 1 < -2147483648/\¬2147483648<V i 1):=by omega
   rcases hk1 with f1|⟨f1,b1⟩|⟨f1,b1⟩
   ·rw [show decide (TrR w n T V)=false from decide_eq_false (fun h9=>(fun h:KeR T V i=>(by have:=h.2.2.2 1 (by omega);omega)) (h9.2.2.2.2 i hlt))] at hQ
    have U38:=ca2 U34 f1
    exact AW.f U38 Tru
   ·rw [show decide (TrR w n T V)=false from decide_eq_false (fun h9=>(fun h:KeR T V i=>(by have:=h.2.2.2 1 (by omega);omega)) (h9.2.2.2.2 i hlt))] at hQ
    have U39:=ca3 U34 f1 b1
    exact AW.f U39 Tru
   have ok1:=True.intro
   have U40:=ca3 U34 f1 b1
   refine AW.w 8 U40 Tru fun K J2=>?_
   refine AW.w 6 U34 (Je2 (V i)) fun K J3=>?_
   refine AW.q fun K J4=>?_
   have hk2:V i 2 < -2147483648\/(¬V i 2 < -2147483648/\2147483648<V i 2)\/(¬V i 2 < -2147483648/\¬2147483648<V i 2):=by omega
   rcases hk2 with f2|⟨f2,b2⟩|⟨f2,b2⟩
   ·rw [show decide (TrR w n T V)=false from decide_eq_false (fun h9=>(fun h:KeR T V i=>(by have:=h.2.2.2 2 (by omega);omega)) (h9.2.2.2.2 i hlt))] at hQ
    have U41:=ca2 U34 f2
    exact AW.f U41 Tru
   ·rw [show decide (TrR w n T V)=false from decide_eq_false (fun h9=>(fun h:KeR T V i=>(by have:=h.2.2.2 2 (by omega);omega)) (h9.2.2.2.2 i hlt))] at hQ
    have U42:=ca3 U34 f2 b2
    exact AW.f U42 Tru
   have ok2:=True.intro
   have U43:=ca3 U34 f2 b2
   refine AW.w 8 U43 Tru fun K J2=>?_
   refine AW.w 6 U34 Tru fun K J3=>?_
   have hwi:IntKind.i64.wrap ((i:Int)+1)=(i:Int)+1:=wi (by omega)
   have hnow:KeR T V i:=⟨by omega,by omega,e6,fun a ha=>by
     match a,ha with
     | 0,_=>omega
     | 1,_=>omega
     | 2,_=>omega⟩
   exact Wj (i+1) U34 hwi Tru (hI:=⟨by omega,fun k hk=>by
     rcases Nat.lt_or_ge k i with h|h
     · exact hok k h
     obtain rfl:k=i:=by omega
     exact hnow⟩)
  ·rw [show decide (TrR w n T V)=false from decide_eq_false (fun h9=>(fun h:KeR T V i=>(by have h1:=h.2.2.1 e3;omega)) (h9.2.2.2.2 i hlt))] at hQ
   have e5:(0:Int)<(i:Int):=by omega
   obtain ⟨j,hj⟩:∃ j,j=i - 1:=⟨_,rfl⟩
   have p1:IntKind.i64.wrap ((i:Int) - 1)=(j:Int):=by rw [wi (by omega)];omega
   have p2:(0:Int)<=(j:Int):=by omega
   have p3:(j:Int)<(n:Int):=by omega
   have p4:j*4+4<=n*4:=by omega
   have p5:j<n:=by omega
   have ha:=Jb5 (w:=4) (F:=keC T V) (fun _=>rfl) p5
   rw [<-hj] at e4
   have p6:(Jb0 n (keC T V))[j*4]?=some (.int .i64 (T j)):=Ji4 (w:=4) (F:=keC T V) (fun _=>rfl) p5 (a:=0) (by omega)
   have U44:=ca4 U31 e1 e2 (ca4 e4 e5 p1 (ca4 p2 p3 p4 (ca3 p5 p6 ha)))
   exact AW.fd [[.val,.rd 0,.val,.val,.val,.rd 0,.val,.val,.val,.val,.val,.val,.val,.rd 0,.val,.val,.val,.val,.rd 0,.val,.rd 0,.val,.val,.val]] U44 Tru
  have e5:(0:Int)<(i:Int):=by omega
  obtain ⟨j,hj⟩:∃ j,j=i - 1:=⟨_,rfl⟩
  have p1:IntKind.i64.wrap ((i:Int) - 1)=(j:Int):=by rw [wi (by omega)];omega
  have p2:(0:Int)<=(j:Int):=by omega
  have p3:(j:Int)<(n:Int):=by omega
  have p4:j*4+4<=n*4:=by omega
  have p5:j<n:=by omega
  have ha:=Jb5 (w:=4) (F:=keC T V) (fun _=>rfl) p5
  rw [<-hj] at e4
  have p6:(Jb0 n (keC T V))[j*4]?=some (.int .i64 (T j)):=Ji4 (w:=4) (F:=keC T V) (fun _=>rfl) p5 (a:=0) (by omega)
  have e6:0<i->T (i - 1)<T i:=fun _=>by rw [<-hj];omega
  have U45:=ca4 U31 e1 e2 (ca4 e4 e5 p1 (ca4 p2 p3 p4 (ca3 p5 p6 ha)))
  refine AW.wd [[.val,.rd 0,.val,.val,.val,.rd 0,.val,.val,.val,.val,.val,.val,.val,.rd 0,.val,.val,.val,.val,.rd 0,.val,.rd 0,.val,.val,.val]] 7 U45 Tru ?_
  refine AW.r 4 ?_
  refine AW.w 7 U45 (Jc0 (V i)) fun K J2 K J3=>?_
  refine AW.q fun K J4=>?_
  have hk0:V i 0 < -2147483648\/(¬V i 0 < -2147483648/\2147483648<V i 0)\/(¬V i 0 < -2147483648/\¬2147483648<V i 0):=by omega
  rcases hk0 with f0|⟨f0,b0⟩|⟨f0,b0⟩
  ·rw [show decide (TrR w n T V)=false from decide_eq_false (fun h9=>(fun h:KeR T V i=>(by have:=h.2.2.2 0 (by omega);omega)) (h9.2.2.2.2 i hlt))] at hQ
   have U46:=ca2 U45 f0
   exact AW.f U46 Tru
  ·rw [show decide (TrR w n T V)=false from decide_eq_false (fun h9=>(fun h:KeR T V i=>(by have:=h.2.2.2 0 (by omega);omega)) (h9.2.2.2.2 i hlt))] at hQ
   have U47:=ca3 U45 f0 b0
   exact AW.f U47 Tru
  have ok0:=True.intro
  have U48:=ca3 U45 f0 b0
  refine AW.w 8 U48 Tru fun K J2=>?_
  refine AW.w 6 U45 (Jc7 (V i)) fun K J3=>?_
  refine AW.q fun K J4=>?_
  have hk1:V i 1 < -2147483648\/(¬V i 1 < -2147483648/\2147483648<V i 1)\/(¬V i 1 < -2147483648/\¬2147483648<V i 1):=by omega
  rcases hk1 with f1|⟨f1,b1⟩|⟨f1,b1⟩
  ·rw [show decide (TrR w n T V)=false from decide_eq_false (fun h9=>(fun h:KeR T V i=>(by have:=h.2.2.2 1 (by omega);omega)) (h9.2.2.2.2 i hlt))] at hQ
   have U49:=ca2 U45 f1
   exact AW.f U49 Tru
  ·rw [show decide (TrR w n T V)=false from decide_eq_false (fun h9=>(fun h:KeR T V i=>(by have:=h.2.2.2 1 (by omega);omega)) (h9.2.2.2.2 i hlt))] at hQ
   have U50:=ca3 U45 f1 b1
   exact AW.f U50 Tru
  have ok1:=True.intro
  have U51:=ca3 U45 f1 b1
  refine AW.w 8 U51 Tru fun K J2=>?_
  refine AW.w 6 U45 (Je2 (V i)) fun K J3=>?_
  refine AW.q fun K J4=>?_
  have hk2:V i 2 < -2147483648\/(¬V i 2 < -2147483648/\2147483648<V i 2)\/(¬V i 2 < -2147483648/\¬2147483648<V i 2):=by omega
  rcases hk2 with f2|⟨f2,b2⟩|⟨f2,b2⟩
  ·rw [show decide (TrR w n T V)=false from decide_eq_false (fun h9=>(fun h:KeR T V i=>(by have:=h.2.2.2 2 (by omega);omega)) (h9.2.2.2.2 i hlt))] at hQ
   have U52:=ca2 U45 f2
   exact AW.f U52 Tru
  ·rw [show decide (TrR w n T V)=false from decide_eq_false (fun h9=>(fun h:KeR T V i=>(by have:=h.2.2.2 2 (by omega);omega)) (h9.2.2.2.2 i hlt))] at hQ
   have U53:=ca3 U45 f2 b2
   exact AW.f U53 Tru
  have ok2:=True.intro
  have U54:=ca3 U45 f2 b2
  refine AW.w 8 U54 Tru fun K J2=>?_
  refine AW.w 6 U45 Tru fun K J3=>?_
  have hwi:IntKind.i64.wrap ((i:Int)+1)=(i:Int)+1:=wi (by omega)
  have hnow:KeR T V i:=⟨by omega,by omega,e6,fun a ha=>by
    match a,ha with
    | 0,_=>omega
    | 1,_=>omega
    | 2,_=>omega⟩
  exact Wj (i+1) U45 hwi Tru (hI:=⟨by omega,fun k hk=>by
    rcases Nat.lt_or_ge k i with h|h
    · exact hok k h
    obtain rfl:k=i:=by omega
    exact hnow⟩)
 have hie:i=n:=by have:=of_decide_eq_false h31;omega
 rw [show decide (TrR w n T V)=true from decide_eq_true ⟨by omega,by omega,by omega,by omega,fun k hk=>hok k (by omega)⟩] at hQ
 exact AW.f U30 Tru
def z3 (f:Nat->Int):Bool:=f 0 ==0&&(f 1 ==0&&f 2 ==0)
def S0R (s:SC)(i:Nat):Prop:=inB (s.xj i) (-1) ((s.nj:Int) - 1)=true/\inB (s.xp i) 0 ((s.np:Int) - 1)=true/\Jg7 (s.xv i 0) (-16777216) 16777216=true/\z3 (s.xv i 1)=true/\z3 (s.xv i 2)=true/\1<=s.xr i/\s.xr i<=4194304
instance (s:SC)(i:Nat):Decidable (S0R s i):=by unfold S0R;exact inferInstance
def S1R (s:SC)(i:Nat):Prop:=inB (s.xj i) (-1) ((s.nj:Int) - 1)=true/\inB (s.xp i) 0 ((s.np:Int) - 1)=true/\Jg7 (s.xv i 0) (-16777216) 16777216=true/\(s.xk i ==1)=true/\Jg7 (s.xv i 1) (-16777216) 16777216=true/\Jg7 (s.xv i 2) (-16777216) 16777216=true/\(s.xr i ==0)=true
instance (s:SC)(i:Nat):Decidable (S1R s i):=by unfold S1R;exact inferInstance
def ShR (s:SC)(i:Nat):Prop:=if s.xk i=0 then S0R s i else S1R s i
instance (s:SC)(i:Nat):Decidable (ShR s i):=by unfold ShR;exact inferInstance
theorem Xd0 (s:SC)(i:Nat):xC s i=(.int .i64 (s.xj i)::.int .i64 (s.xp i)::.int .i64 (s.xk i)::(c3C (s.xv i 0)++(c3C (s.xv i 1)++(c3C (s.xv i 2)++[.int .i64 (s.xr i)])))):=rfl
theorem Xf9 (s:SC)(R:RWs)(i:Nat)(m:Ja1)(hn:s.nj<=1000000000000)(hp:s.np<=1000000000000)(hb:¬(inB (s.xj i) (-1) ((s.nj:Int) - 1)=true/\inB (s.xp i) 0 ((s.np:Int) - 1)=true/\Jg7 (s.xv i 0) (-16777216) 16777216=true)):Ctr Tryz.prog 72 [.agg (scC s R),.agg (xC s i)] m (.one (.bool false)) m:=by
 refine Ctr.en Tryz.func72 [.tmp 4] 75 fun hwf Q hQ=>?_
 have w1:=(show IntKind.i64.wrap ((s.nj:Int) - 1)=(s.nj:Int) - 1 from wi (by omega))
 have w2:=(show IntKind.i64.wrap ((s.np:Int) - 1)=(s.np:Int) - 1 from wi (by omega))
 rcases Va5 (inB (s.xj i) (-1) ((s.nj:Int) - 1)=true) (inB (s.xp i) 0 ((s.np:Int) - 1)=true) (Jg7 (s.xv i 0) (-16777216) 16777216=true) with ⟨g1,g2,g3⟩|⟨g1,g2,g3⟩|⟨g1,g2,g3⟩|⟨g1,g2,g3⟩
 · exact absurd ⟨g1,g2,g3⟩ hb
 all_goals (
 try simp only [Bool.not_eq_true,Bool.not_eq_false,Classical.not_not] at g1 g2 g3
 have U1:=ca4 g1 g2 g3 (ca4 @Je1 @Jd8 @Je0 (ca4 @Ja6 @Xd0 w1 w2))
 refine AW.c 1 U1 Tru ?_
 refine AW.q fun K J0=>?_
 refine AW.sr 1 fun K J1=>?_
 simp only [push_cast,simprocAttr,U1]
 refine CThen.by (Kb0 _ _ _ _) ?_
 simp only [push_cast,simprocAttr,U1]
 try (refine CThen.by (Kb0 _ _ _ _) ?_;simp only [push_cast,simprocAttr,U1])
 try (refine CThen.by (Kh3 _ _) ?_;simp only [push_cast,simprocAttr,U1])
 exact AW.f U1 Tru
 )
theorem Xg1 (s:SC)(R:RWs)(i:Nat)(m:Ja1)(hn:s.nj<=1000000000000)(hp:s.np<=1000000000000)(g1:inB (s.xj i) (-1) ((s.nj:Int) - 1)=true)(g2:inB (s.xp i) 0 ((s.np:Int) - 1)=true)(g3:Jg7 (s.xv i 0) (-16777216) 16777216=true)(hk:s.xk i=0):Ctr Tryz.prog 72 [.agg (scC s R),.agg (xC s i)] m (.one (.bool (decide (S0R s i)))) m:=by
 refine Ctr.en Tryz.func72 [.tmp 4] 75 fun hwf Q hQ=>?_
 have w1:=(show IntKind.i64.wrap ((s.nj:Int) - 1)=(s.nj:Int) - 1 from wi (by omega))
 have w2:=(show IntKind.i64.wrap ((s.np:Int) - 1)=(s.np:Int) - 1 from wi (by omega))
 rcases Kd1 ((s.xv i 1 0 ==0&&(s.xv i 1 1 ==0&&s.xv i 1 2 ==0))=true) ((s.xv i 2 0 ==0&&(s.xv i 2 1 ==0&&s.xv i 2 2 ==0))=true) (1<=s.xr i) (s.xr i<=4194304) with ⟨e1,e2,e3,e4⟩|⟨e1,e2,e3,e4⟩|⟨e1,e2,e3,e4⟩|⟨e1,e2,e3,e4⟩|⟨e1,e2,e3,e4⟩ <;>
 (
 try simp only [Bool.not_eq_true,Bool.not_eq_false,Classical.not_not] at e1 e2 e3 e4
 first
 | (have hz:(S0R s i):=⟨g1,g2,g3,e1,e2,e3,e4⟩
    rw [decide_eq_true hz] at hQ)
 | (have hz:¬(S0R s i):=fun ⟨qg1,qg2,qg3,qe1,qe2,qe3,qe4⟩=>by
      first|exact e1 qe1|exact Bool.false_ne_true (e1.symm.trans qe1)|exact e2 qe2|exact Bool.false_ne_true (e2.symm.trans qe2)|exact e3 qe3|exact Bool.false_ne_true (e3.symm.trans qe3)|exact e4 qe4|exact Bool.false_ne_true (e4.symm.trans qe4)
    rw [decide_eq_false hz] at hQ)
 have U2:=ca4 e1 e2 e3 (ca4 e4 @Je1 @Jd8 (ca4 @Je0 @Ja6 @Xd0 (ca4 w1 w2 hk (ca3 g1 g2 g3))))
 exact AW.f U2 (ca2 Kb0 Kh3)
 )
theorem Xg0 (s:SC)(R:RWs)(i:Nat)(m:Ja1)(hn:s.nj<=1000000000000)(hp:s.np<=1000000000000)(g1:inB (s.xj i) (-1) ((s.nj:Int) - 1)=true)(g2:inB (s.xp i) 0 ((s.np:Int) - 1)=true)(g3:Jg7 (s.xv i 0) (-16777216) 16777216=true)(hk:¬s.xk i=0):Ctr Tryz.prog 72 [.agg (scC s R),.agg (xC s i)] m (.one (.bool (decide (S1R s i)))) m:=by
 refine Ctr.en Tryz.func72 [.tmp 4] 75 fun hwf Q hQ=>?_
 have w1:=(show IntKind.i64.wrap ((s.nj:Int) - 1)=(s.nj:Int) - 1 from wi (by omega))
 have w2:=(show IntKind.i64.wrap ((s.np:Int) - 1)=(s.np:Int) - 1 from wi (by omega))
 have hk0:(s.xk i ==0)=false:=by simpa using hk
 rcases Kd1 ((s.xk i ==1)=true) (Jg7 (s.xv i 1) (-16777216) 16777216=true) (Jg7 (s.xv i 2) (-16777216) 16777216=true) ((s.xr i ==0)=true) with ⟨e1,e2,e3,e4⟩|⟨e1,e2,e3,e4⟩|⟨e1,e2,e3,e4⟩|⟨e1,e2,e3,e4⟩|⟨e1,e2,e3,e4⟩ <;>
 (
 try simp only [Bool.not_eq_true,Bool.not_eq_false,Classical.not_not] at e1 e2 e3 e4
 first
 | (have hz:(S1R s i):=⟨g1,g2,g3,e1,e2,e3,e4⟩
    rw [decide_eq_true hz] at hQ)
 | (have hz:¬(S1R s i):=fun ⟨qg1,qg2,qg3,qe1,qe2,qe3,qe4⟩=>by
      first|exact e1 qe1|exact Bool.false_ne_true (e1.symm.trans qe1)|exact e2 qe2|exact Bool.false_ne_true (e2.symm.trans qe2)|exact e3 qe3|exact Bool.false_ne_true (e3.symm.trans qe3)|exact e4 qe4|exact Bool.false_ne_true (e4.symm.trans qe4)
    rw [decide_eq_false hz] at hQ)
 have U3:=ca4 e1 e2 e3 (ca4 e4 @Je1 @Jd8 (ca4 @Je0 @Ja6 @Xd0 (ca4 w1 w2 hk (ca4 hk0 g1 g2 g3))))
 refine AW.w 11 U3 (ca2 Kb0 Kh3) ?_
 refine AW.sr 1 fun K J0=>?_
 simp only [push_cast,simprocAttr,U3]
 try (refine CThen.by (Kh3 _ _) ?_;simp only [push_cast,simprocAttr,U3])
 try (refine CThen.by (Kh3 _ _) ?_;simp only [push_cast,simprocAttr,U3])
 exact AW.f U3 Tru
 )
theorem rsh_c (s:SC)(R:RWs)(i:Nat)(m:Ja1)(hn:s.nj<=1000000000000)(hp:s.np<=1000000000000):Ctr Tryz.prog 72 [.agg (scC s R),.agg (xC s i)] m (.one (.bool (decide (ShR s i)))) m:=by
 by_cases hg:(inB (s.xj i) (-1) ((s.nj:Int) - 1)=true/\inB (s.xp i) 0 ((s.np:Int) - 1)=true/\Jg7 (s.xv i 0) (-16777216) 16777216=true)
 ·obtain ⟨g1,g2,g3⟩:=hg
  by_cases hk:s.xk i=0
  ·have e:decide (ShR s i)=decide (S0R s i):=by congr 1;exact if_pos hk
   rw [e];exact Xg1 s R i m hn hp g1 g2 g3 hk
  have e:decide (ShR s i)=decide (S1R s i):=by congr 1;exact if_neg hk
  rw [e];exact Xg0 s R i m hn hp g1 g2 g3 hk
 have e:decide (ShR s i)=false:=decide_eq_false fun h=>hg (by
  unfold ShR at h
  split at h
  ·exact ⟨h.1,h.2.1,h.2.2.1⟩
  exact ⟨h.1,h.2.1,h.2.2.1⟩)
 rw [e];exact Xf9 s R i m hn hp hg
theorem Xe9 (x lo hi:Int)(m:Ja1)(g:lo<=x):Ctr Tryz.prog 103 [.one (.int .i64 x),.one (.int .i64 lo),.one (.int .i64 hi)] m (.one (.bool (inB x lo hi))) m:=by
 have U1:=ca4 @Vi6 g @decide_true (ca3 @decide_false @Bool.true_and @Bool.false_and)
 exact Ctr.f Tryz.func103 [.tmp 6] 15 U1 Tru
theorem Xf0 (x lo hi:Int)(m:Ja1)(g:¬lo<=x):Ctr Tryz.prog 103 [.one (.int .i64 x),.one (.int .i64 lo),.one (.int .i64 hi)] m (.one (.bool (inB x lo hi))) m:=by
 have U2:=ca4 @Vi6 g @decide_true (ca3 @decide_false @Bool.true_and @Bool.false_and)
 exact Ctr.f Tryz.func103 [.tmp 6] 15 U2 Tru
theorem Jm5 (x lo hi:Int)(m:Ja1):Ctr Tryz.prog 103 [.one (.int .i64 x),.one (.int .i64 lo),.one (.int .i64 hi)] m (.one (.bool (inB x lo hi))) m:=by
 by_cases g:lo<=x
 ·exact Xe9 x lo hi m g
 exact Xf0 x lo hi m g
theorem Qh4 (f:Nat->Int)(m:Ja1):Ctr Tryz.prog 174 [.agg (c3C f)] m (.one (.bool (Jg7 f (0) (1048576)))) m:=by
 refine Ctr.en Tryz.func174 [.tmp 2] 22 fun hwf Q hQ=>?_
 have gv:=Vr3 f
 refine AW.w 4 @Ja6 Tru fun K J0=>?_
 refine AW.r 4 ?_
 refine AW.w 6 @Ja6 Tru fun K J1 K J2=>?_
 refine AW.q fun K J3=>?_
 have hk0:f 0<0\/(¬f 0<0/\1048576<f 0)\/(¬f 0<0/\¬1048576<f 0):=by omega
 rcases hk0 with g0|⟨g0,f0⟩|⟨g0,f0⟩
 ·rw [show Jg7 f (0) (1048576)=false from decide_eq_false (by omega)] at hQ
  have U3:=ca2 @Ja6 g0
  refine AW.w 5 U3 Tru ?_
  refine hQ _ _ _ ?_
  first
  | (refine RetP.drop0 (Or.inr rfl) ?_ ?_ hwf
     · simp only [Jd3,Ja9,Jb6,AV.tv,push_cast,simprocAttr]
     rfl)
  | (refine RetP.drop (Or.inr rfl) ?_ ?_ hwf
     · simp only [Jd3,Ja9,Jb6,AV.tv,push_cast,simprocAttr]
     rfl)
  | (rw [show Jg7 f (0) (1048576)=true from decide_eq_true (by omega)] at * ;refine RetP.drop (Or.inr rfl) ?_ ?_ hwf
     · simp only [Jd3,Ja9,Jb6,AV.tv,push_cast,simprocAttr]
     rfl)
 ·rw [show Jg7 f (0) (1048576)=false from decide_eq_false (by omega)] at hQ
  have U4:=ca3 @Ja6 g0 f0
  refine AW.w 5 U4 Tru ?_
  refine hQ _ _ _ ?_
  first
  | (refine RetP.drop0 (Or.inr rfl) ?_ ?_ hwf
     · simp only [Jd3,Ja9,Jb6,AV.tv,push_cast,simprocAttr]
     rfl)
  | (refine RetP.drop (Or.inr rfl) ?_ ?_ hwf
     · simp only [Jd3,Ja9,Jb6,AV.tv,push_cast,simprocAttr]
     rfl)
  | (rw [show Jg7 f (0) (1048576)=true from decide_eq_true (by omega)] at * ;refine RetP.drop (Or.inr rfl) ?_ ?_ hwf
     · simp only [Jd3,Ja9,Jb6,AV.tv,push_cast,simprocAttr]
     rfl)
 have ok0:=True.intro
 have U5:=ca3 @Ja6 g0 f0
 refine AW.w 8 U5 Tru fun K J1=>?_
 refine AW.w 5 @Ja6 Tru fun K J2=>?_
 refine AW.q fun K J3=>?_
 have hk1:f 1<0\/(¬f 1<0/\1048576<f 1)\/(¬f 1<0/\¬1048576<f 1):=by omega
 rcases hk1 with g1|⟨g1,f1⟩|⟨g1,f1⟩
 ·rw [show Jg7 f (0) (1048576)=false from decide_eq_false (by omega)] at hQ
  have U6:=ca2 @Ja6 g1
  refine AW.w 5 U6 Tru ?_
  refine hQ _ _ _ ?_
  first
  | (refine RetP.drop0 (Or.inr rfl) ?_ ?_ hwf
     · simp only [Jd3,Ja9,Jb6,AV.tv,push_cast,simprocAttr]
     rfl)
  | (refine RetP.drop (Or.inr rfl) ?_ ?_ hwf
     · simp only [Jd3,Ja9,Jb6,AV.tv,push_cast,simprocAttr]
     rfl)
  | (rw [show Jg7 f (0) (1048576)=true from decide_eq_true (by omega)] at * ;refine RetP.drop (Or.inr rfl) ?_ ?_ hwf
     · simp only [Jd3,Ja9,Jb6,AV.tv,push_cast,simprocAttr]
     rfl)
 ·rw [show Jg7 f (0) (1048576)=false from decide_eq_false (by omega)] at hQ
  have U7:=ca3 @Ja6 g1 f1
  refine AW.w 5 U7 Tru ?_
  refine hQ _ _ _ ?_
  first
  | (refine RetP.drop0 (Or.inr rfl) ?_ ?_ hwf
     · simp only [Jd3,Ja9,Jb6,AV.tv,push_cast,simprocAttr]
     rfl)
  | (refine RetP.drop (Or.inr rfl) ?_ ?_ hwf
     · simp only [Jd3,Ja9,Jb6,AV.tv,push_cast,simprocAttr]
     rfl)
  | (rw [show Jg7 f (0) (1048576)=true from decide_eq_true (by omega)] at * ;refine RetP.drop (Or.inr rfl) ?_ ?_ hwf
     · simp only [Jd3,Ja9,Jb6,AV.tv,push_cast,simprocAttr]
     rfl)
 have ok1:=True.intro
 have U8:=ca3 @Ja6 g1 f1
 refine AW.w 8 U8 Tru fun K J1=>?_
 refine AW.w 5 @Ja6 Tru fun K J2=>?_
 refine AW.q fun K J3=>?_
 have hk2:f 2<0\/(¬f 2<0/\1048576<f 2)\/(¬f 2<0/\¬1048576<f 2):=by omega
 rcases hk2 with g2|⟨g2,f2⟩|⟨g2,f2⟩
 ·rw [show Jg7 f (0) (1048576)=false from decide_eq_false (by omega)] at hQ
  have U9:=ca2 @Ja6 g2
  refine AW.w 5 U9 Tru ?_
  refine hQ _ _ _ ?_
  first
  | (refine RetP.drop0 (Or.inr rfl) ?_ ?_ hwf
     · simp only [Jd3,Ja9,Jb6,AV.tv,push_cast,simprocAttr]
     rfl)
  | (refine RetP.drop (Or.inr rfl) ?_ ?_ hwf
     · simp only [Jd3,Ja9,Jb6,AV.tv,push_cast,simprocAttr]
     rfl)
  | (rw [show Jg7 f (0) (1048576)=true from decide_eq_true (by omega)] at * ;refine RetP.drop (Or.inr rfl) ?_ ?_ hwf
     · simp only [Jd3,Ja9,Jb6,AV.tv,push_cast,simprocAttr]
     rfl)
 ·rw [show Jg7 f (0) (1048576)=false from decide_eq_false (by omega)] at hQ
  have U10:=ca3 @Ja6 g2 f2
  refine AW.w 5 U10 Tru ?_
  refine hQ _ _ _ ?_
  first
  | (refine RetP.drop0 (Or.inr rfl) ?_ ?_ hwf
     · simp only [Jd3,Ja9,Jb6,AV.tv,push_cast,simprocAttr]
     rfl)
  | (refine RetP.drop (Or.inr rfl) ?_ ?_ hwf
     · simp only [Jd3,Ja9,Jb6,AV.tv,push_cast,simprocAttr]
     rfl)
  | (rw [show Jg7 f (0) (1048576)=true from decide_eq_true (by omega)] at * ;refine RetP.drop (Or.inr rfl) ?_ ?_ hwf
     · simp only [Jd3,Ja9,Jb6,AV.tv,push_cast,simprocAttr]
     rfl)
 have ok2:=True.intro
 have U11:=ca3 @Ja6 g2 f2
 refine AW.w 8 U11 Tru fun K J1=>?_
 refine AW.w 7 @Ja6 Tru fun K J2=>?_
 refine hQ _ _ _ ?_
 first
 | (refine RetP.drop0 (Or.inr rfl) ?_ ?_ hwf
    · simp only [Jd3,Ja9,Jb6,AV.tv,push_cast,simprocAttr]
    rfl)
 | (refine RetP.drop (Or.inr rfl) ?_ ?_ hwf
    · simp only [Jd3,Ja9,Jb6,AV.tv,push_cast,simprocAttr]
    rfl)
 | (rw [show Jg7 f (0) (1048576)=true from decide_eq_true (by omega)] at * ;refine RetP.drop (Or.inr rfl) ?_ ?_ hwf
    · simp only [Jd3,Ja9,Jb6,AV.tv,push_cast,simprocAttr]
    rfl)
theorem Kf1 (f:Nat->Int)(m:Ja1):Ctr Tryz.prog 177 [.agg (c3C f)] m (.one (.bool (Jg7 f (-16777216) (16777216)))) m:=by
 refine Ctr.en Tryz.func177 [.tmp 2] 18 fun hwf Q hQ=>?_
 have gv:=Vr3 f
 refine AW.w 4 Tru Tru fun K J0=>?_
 refine AW.r 4 ?_
 refine AW.w 7 Tru (Jc0 f) fun K J1 K J2=>?_
 refine AW.q fun K J3=>?_
 have hk0:f 0 < -16777216\/(¬f 0 < -16777216/\16777216<f 0)\/(¬f 0 < -16777216/\¬16777216<f 0):=by omega
 rcases hk0 with g0|⟨g0,f0⟩|⟨g0,f0⟩
 ·rw [show Jg7 f (-16777216) (16777216)=false from decide_eq_false (by omega)] at hQ
  refine AW.w 5 g0 Tru ?_
  refine hQ _ _ _ ?_
  first
  | (refine RetP.drop0 (Or.inr rfl) ?_ ?_ hwf
     · simp only [Jd3,Ja9,Jb6,AV.tv,push_cast,simprocAttr]
     rfl)
  | (refine RetP.drop (Or.inr rfl) ?_ ?_ hwf
     · simp only [Jd3,Ja9,Jb6,AV.tv,push_cast,simprocAttr]
     rfl)
  | (rw [show Jg7 f (-16777216) (16777216)=true from decide_eq_true (by omega)] at * ;refine RetP.drop (Or.inr rfl) ?_ ?_ hwf
     · simp only [Jd3,Ja9,Jb6,AV.tv,push_cast,simprocAttr]
     rfl)
 ·rw [show Jg7 f (-16777216) (16777216)=false from decide_eq_false (by omega)] at hQ
  have U12:=ca2 g0 f0
  refine AW.w 5 U12 Tru ?_
  refine hQ _ _ _ ?_
  first
  | (refine RetP.drop0 (Or.inr rfl) ?_ ?_ hwf
     · simp only [Jd3,Ja9,Jb6,AV.tv,push_cast,simprocAttr]
     rfl)
  | (refine RetP.drop (Or.inr rfl) ?_ ?_ hwf
     · simp only [Jd3,Ja9,Jb6,AV.tv,push_cast,simprocAttr]
     rfl)
  | (rw [show Jg7 f (-16777216) (16777216)=true from decide_eq_true (by omega)] at * ;refine RetP.drop (Or.inr rfl) ?_ ?_ hwf
     · simp only [Jd3,Ja9,Jb6,AV.tv,push_cast,simprocAttr]
     rfl)
 have ok0:=True.intro
 have U13:=ca2 g0 f0
 refine AW.w 14 U13 (Jc7 f) fun K J1 K J2=>?_
 refine AW.q fun K J3=>?_
 have hk1:f 1 < -16777216\/(¬f 1 < -16777216/\16777216<f 1)\/(¬f 1 < -16777216/\¬16777216<f 1):=by omega
 rcases hk1 with g1|⟨g1,f1⟩|⟨g1,f1⟩
 ·rw [show Jg7 f (-16777216) (16777216)=false from decide_eq_false (by omega)] at hQ
  refine AW.w 5 g1 Tru ?_
  refine hQ _ _ _ ?_
  first
  | (refine RetP.drop0 (Or.inr rfl) ?_ ?_ hwf
     · simp only [Jd3,Ja9,Jb6,AV.tv,push_cast,simprocAttr]
     rfl)
  | (refine RetP.drop (Or.inr rfl) ?_ ?_ hwf
     · simp only [Jd3,Ja9,Jb6,AV.tv,push_cast,simprocAttr]
     rfl)
  | (rw [show Jg7 f (-16777216) (16777216)=true from decide_eq_true (by omega)] at * ;refine RetP.drop (Or.inr rfl) ?_ ?_ hwf
     · simp only [Jd3,Ja9,Jb6,AV.tv,push_cast,simprocAttr]
     rfl)
 ·rw [show Jg7 f (-16777216) (16777216)=false from decide_eq_false (by omega)] at hQ
  have U14:=ca2 g1 f1
  refine AW.w 5 U14 Tru ?_
  refine hQ _ _ _ ?_
  first
  | (refine RetP.drop0 (Or.inr rfl) ?_ ?_ hwf
     · simp only [Jd3,Ja9,Jb6,AV.tv,push_cast,simprocAttr]
     rfl)
  | (refine RetP.drop (Or.inr rfl) ?_ ?_ hwf
     · simp only [Jd3,Ja9,Jb6,AV.tv,push_cast,simprocAttr]
     rfl)
  | (rw [show Jg7 f (-16777216) (16777216)=true from decide_eq_true (by omega)] at * ;refine RetP.drop (Or.inr rfl) ?_ ?_ hwf
     · simp only [Jd3,Ja9,Jb6,AV.tv,push_cast,simprocAttr]
     rfl)
 have ok1:=True.intro
 have U15:=ca2 g1 f1
 refine AW.w 14 U15 (Je2 f) fun K J1 K J2=>?_
 refine AW.q fun K J3=>?_
 have hk2:f 2 < -16777216\/(¬f 2 < -16777216/\16777216<f 2)\/(¬f 2 < -16777216/\¬16777216<f 2):=by omega
 rcases hk2 with g2|⟨g2,f2⟩|⟨g2,f2⟩
 ·rw [show Jg7 f (-16777216) (16777216)=false from decide_eq_false (by omega)] at hQ
  refine AW.w 5 g2 Tru ?_
  refine hQ _ _ _ ?_
  first
  | (refine RetP.drop0 (Or.inr rfl) ?_ ?_ hwf
     · simp only [Jd3,Ja9,Jb6,AV.tv,push_cast,simprocAttr]
     rfl)
  | (refine RetP.drop (Or.inr rfl) ?_ ?_ hwf
     · simp only [Jd3,Ja9,Jb6,AV.tv,push_cast,simprocAttr]
     rfl)
  | (rw [show Jg7 f (-16777216) (16777216)=true from decide_eq_true (by omega)] at * ;refine RetP.drop (Or.inr rfl) ?_ ?_ hwf
     · simp only [Jd3,Ja9,Jb6,AV.tv,push_cast,simprocAttr]
     rfl)
 ·rw [show Jg7 f (-16777216) (16777216)=false from decide_eq_false (by omega)] at hQ
  have U16:=ca2 g2 f2
  refine AW.w 5 U16 Tru ?_
  refine hQ _ _ _ ?_
  first
  | (refine RetP.drop0 (Or.inr rfl) ?_ ?_ hwf
     · simp only [Jd3,Ja9,Jb6,AV.tv,push_cast,simprocAttr]
     rfl)
  | (refine RetP.drop (Or.inr rfl) ?_ ?_ hwf
     · simp only [Jd3,Ja9,Jb6,AV.tv,push_cast,simprocAttr]
     rfl)
  | (rw [show Jg7 f (-16777216) (16777216)=true from decide_eq_true (by omega)] at * ;refine RetP.drop (Or.inr rfl) ?_ ?_ hwf
     · simp only [Jd3,Ja9,Jb6,AV.tv,push_cast,simprocAttr]
     rfl)
 have ok2:=True.intro
 have U17:=ca2 g2 f2
 refine AW.w 15 U17 Tru fun K J1 K J2=>?_
 refine hQ _ _ _ ?_
 first
 | (refine RetP.drop0 (Or.inr rfl) ?_ ?_ hwf
    · simp only [Jd3,Ja9,Jb6,AV.tv,push_cast,simprocAttr]
    rfl)
 | (refine RetP.drop (Or.inr rfl) ?_ ?_ hwf
    · simp only [Jd3,Ja9,Jb6,AV.tv,push_cast,simprocAttr]
    rfl)
 | (rw [show Jg7 f (-16777216) (16777216)=true from decide_eq_true (by omega)] at * ;refine RetP.drop (Or.inr rfl) ?_ ?_ hwf
    · simp only [Jd3,Ja9,Jb6,AV.tv,push_cast,simprocAttr]
    rfl)
theorem chd_c (s:SC)(m:Ja1):Ctr Tryz.prog 91 [.agg (hdC s)] m (.one (.bool (decide (HdR s)))) m:=by
 refine Ctr.en Tryz.func91 [.tmp 2] 41 fun hwf Q hQ=>?_
 rcases Vr2 (inB s.w 1 64=true) (inB s.h 1 64=true) (inB s.sm 1 16=true) (inB s.dp 1 6=true) (inB s.fr 1 32=true) (0<=s.sh) (s.sh<=65536) (Jg7 s.sk 0 1048576=true) with ⟨g1,g2,g3,g4,g5,g6,g7,g8⟩|⟨g1,g2,g3,g4,g5,g6,g7,g8⟩|⟨g1,g2,g3,g4,g5,g6,g7,g8⟩|⟨g1,g2,g3,g4,g5,g6,g7,g8⟩|⟨g1,g2,g3,g4,g5,g6,g7,g8⟩|⟨g1,g2,g3,g4,g5,g6,g7,g8⟩|⟨g1,g2,g3,g4,g5,g6,g7,g8⟩|⟨g1,g2,g3,g4,g5,g6,g7,g8⟩|⟨g1,g2,g3,g4,g5,g6,g7,g8⟩ <;>
 (
 try simp only [Bool.not_eq_true,Bool.not_eq_false,Classical.not_not] at g1 g2 g3 g4 g5 g6 g7 g8
 first
 | (have hz:(HdR s):=⟨g1,g2,g3,g4,g5,g6,g7,g8⟩
    rw [decide_eq_true hz] at hQ)
 | (have hz:¬(HdR s):=fun ⟨q1,q2,q3,q4,q5,q6,q7,q8⟩=>by
      first|exact g1 q1|(rw [g1] at q1;exact absurd q1 (by decide))|exact g2 q2|(rw [g2] at q2;exact absurd q2 (by decide))|exact g3 q3|(rw [g3] at q3;exact absurd q3 (by decide))|exact g4 q4|(rw [g4] at q4;exact absurd q4 (by decide))|exact g5 q5|(rw [g5] at q5;exact absurd q5 (by decide))|exact g6 q6|(rw [g6] at q6;exact absurd q6 (by decide))|exact g7 q7|(rw [g7] at q7;exact absurd q7 (by decide))|exact g8 q8|(rw [g8] at q8;exact absurd q8 (by decide))
    rw [decide_eq_false hz] at hQ)
 refine AW.sr 2 fun K J0=>?_
 have U18:=ca4 g1 g2 g3 (ca4 g4 g5 g6 (ca2 g7 g8))
 simp only [push_cast,simprocAttr,hdC,c3C,U18]
 refine CThen.by (Jm5 _ _ _ _) ?_
 simp only [push_cast,simprocAttr,hdC,c3C,U18]
 iterate 2
  try (refine CThen.by (Jm5 _ _ _ _) ?_;simp only [push_cast,simprocAttr,hdC,c3C,U18])
  try (refine CThen.by (Jm5 _ _ _ _) ?_;simp only [push_cast,simprocAttr,hdC,c3C,U18])
 try (refine CThen.by (Qh4 _ _) ?_;simp only [push_cast,simprocAttr,hdC,c3C,U18])
 apply J0
 have U19:=ca3 @Jd8 @Ja6 U18
 exact AW.f U19 Tru
 )
theorem cpa_c (s:SC)(i:Nat)(m:Ja1):Ctr Tryz.prog 93 [.agg (pC s i)] m (.one (.bool (decide (PaR s i)))) m:=by
 refine Ctr.en Tryz.func93 [.tmp 2] 21 fun hwf Q hQ=>?_
 rcases Kd1 (inB (s.pk i) 0 3=true) (Jg7 (s.pc i) 0 1048576=true) (0<=s.pr i) (s.pr i<=65536) with ⟨g1,g2,g3,g4⟩|⟨g1,g2,g3,g4⟩|⟨g1,g2,g3,g4⟩|⟨g1,g2,g3,g4⟩|⟨g1,g2,g3,g4⟩ <;>
 (
 try simp only [Bool.not_eq_true,Bool.not_eq_false,Classical.not_not] at g1 g2 g3 g4
 first
 | (have hz:(PaR s i):=⟨g1,g2,g3,g4⟩
    rw [decide_eq_true hz] at hQ)
 | (have hz:¬(PaR s i):=fun ⟨q1,q2,q3,q4⟩=>by
      first|exact g1 q1|(rw [g1] at q1;exact absurd q1 (by decide))|exact g2 q2|(rw [g2] at q2;exact absurd q2 (by decide))|exact g3 q3|(rw [g3] at q3;exact absurd q3 (by decide))|exact g4 q4|(rw [g4] at q4;exact absurd q4 (by decide))
    rw [decide_eq_false hz] at hQ)
 refine AW.sr 2 fun K J0=>?_
 have U20:=ca4 g1 g2 g3 g4
 simp only [push_cast,simprocAttr,pC,c3C,U20]
 refine CThen.by (Jm5 _ _ _ _) ?_
 simp only [push_cast,simprocAttr,pC,c3C,U20]
 try (refine CThen.by (Qh4 (s.pc i) _) ?_;simp only [push_cast,simprocAttr,pC,c3C,U20])
 apply J0
 have U21:=ca3 @pC_e @Ja6 U20
 exact AW.f U21 Tru
 )
theorem on_c (s:SC)(R:RWs)(n:Int)(m:Ja1)(hn:s.nt<=1000000000000):Ctr Tryz.prog 176 [.agg (scC s R),.one (.int .i64 n)] m (.one (.bool (inB n (-1) ((s.nt:Int) - 1)))) m:=by
 have w:=(show IntKind.i64.wrap ((s.nt:Int) - 1)=(s.nt:Int) - 1 from wi (by omega))
 have U22:=ca4 @Je1 @Jd8 @Je0 (ca2 @Ja6 w)
 exact Ctr.f Tryz.func176 [.tmp 4] 11 U22 Jm5
theorem cle_c (s:SC)(R:RWs)(m:Ja1)(hn:s.nt<=1000000000000):Ctr Tryz.prog 100 [.agg (scC s R)] m (.one (.bool (decide (LeR s)))) m:=by
 refine Ctr.en Tryz.func100 [.tmp 2] 33 fun hwf Q hQ=>?_
 have w:=(show IntKind.i64.wrap ((s.nt:Int) - 1)=(s.nt:Int) - 1 from wi (by omega))
 rcases Kd1 (inB s.ey 0 ((s.nt:Int) - 1)=true) (inB s.lk 0 ((s.nt:Int) - 1)=true) (0<s.wd) (s.wd<=524288) with ⟨g1,g2,g3,g4⟩|⟨g1,g2,g3,g4⟩|⟨g1,g2,g3,g4⟩|⟨g1,g2,g3,g4⟩|⟨g1,g2,g3,g4⟩ <;>
 (
 try simp only [Bool.not_eq_true,Bool.not_eq_false,Classical.not_not] at g1 g2 g3 g4
 first
 | (have hz:(LeR s):=⟨g1,g2,g3,g4⟩
    rw [decide_eq_true hz] at hQ)
 | (have hz:¬(LeR s):=fun ⟨q1,q2,q3,q4⟩=>by
      first|exact g1 q1|(rw [g1] at q1;exact absurd q1 (by decide))|exact g2 q2|(rw [g2] at q2;exact absurd q2 (by decide))|exact g3 q3|(rw [g3] at q3;exact absurd q3 (by decide))|exact g4 q4|(rw [g4] at q4;exact absurd q4 (by decide))
    rw [decide_eq_false hz] at hQ)
 refine AW.sr 2 fun K J0=>?_
 have U23:=ca4 g1 g2 g3 (ca2 g4 w)
 simp only [push_cast,simprocAttr,scC,hdC,tlC,c3C,U23]
 refine CThen.by (Jm5 _ _ _ _) ?_
 simp only [push_cast,simprocAttr,scC,hdC,tlC,c3C,U23]
 try (refine CThen.by (Jm5 _ _ _ _) ?_;simp only [push_cast,simprocAttr,scC,hdC,tlC,c3C,U23])
 apply J0
 have U24:=ca4 @Je1 @Jd8 @Je0 (ca2 @Ja6 U23)
 exact AW.f U24 Tru
 )
theorem cjo_c (s:SC)(R:RWs)(i:Nat)(m:Ja1)(hn:s.nt<=1000000000000)(hj:∃ k e,m[R.j]?=some ⟨k,148,R.vj,e,Jb0 s.nj (jC s)⟩)(hi:i<s.nj)(hnj:s.nj<=1000000000000):Ctr Tryz.prog 96 [.agg (scC s R),.one (.int .i64 (i:Int))] m (.one (.bool (decide (JoR s i)))) m:=by
 refine Ctr.en Tryz.func96 [.tmp 4] 38 fun hwf Q hQ=>?_
 obtain ⟨kj,ej,hj⟩:=hj
 have lj:=Ja8 hj
 have w:=(show IntKind.i64.wrap ((s.nt:Int) - 1)=(s.nt:Int) - 1 from wi (by omega))
 have w2:=(show IntKind.i64.wrap ((i:Int) - 1)=(i:Int) - 1 from wi (by omega))
 have jl:(Jb0 s.nj (jC s)).length=s.nj*4:=Ja5 (w:=4) (F:=jC s) (fun _=>rfl) _
 have ja:((Jb0 s.nj (jC s)).drop (i*4)).take 4=jC s i:=Jb5 (w:=4) (F:=jC s) (fun _=>rfl) hi
 have c1:(0:Int)<=(i:Int):=by omega
 have c2:(i:Int)<(s.nj:Int):=by omega
 have c3:i*4+4<=s.nj*4:=by omega
 have ej0:=Qy1 s i
 have sc0:scC s R=scC s R:=rfl
 rcases Qh5 (inB (s.jp i) (-1) ((i:Int) - 1)=true) (inB (s.jm i) (-1) ((s.nt:Int) - 1)=true) (inB (s.jt i) (-1) ((s.nt:Int) - 1)=true) (0<s.js i) (s.js i<=4194304) with ⟨g1,g2,g3,g4,g5⟩|⟨g1,g2,g3,g4,g5⟩|⟨g1,g2,g3,g4,g5⟩|⟨g1,g2,g3,g4,g5⟩|⟨g1,g2,g3,g4,g5⟩|⟨g1,g2,g3,g4,g5⟩ <;>
 (
 try simp only [Bool.not_eq_true,Bool.not_eq_false,Classical.not_not] at g1 g2 g3 g4 g5
 first
 | (have hz:(JoR s i):=⟨g1,g2,g3,g4,g5⟩
    rw [decide_eq_true hz] at hQ)
 | (have hz:¬(JoR s i):=fun ⟨q1,q2,q3,q4,q5⟩=>by
      first|exact g1 q1|(rw [g1] at q1;exact absurd q1 (by decide))|exact g2 q2|(rw [g2] at q2;exact absurd q2 (by decide))|exact g3 q3|(rw [g3] at q3;exact absurd q3 (by decide))|exact g4 q4|(rw [g4] at q4;exact absurd q4 (by decide))|exact g5 q5|(rw [g5] at q5;exact absurd q5 (by decide))
    rw [decide_eq_false hz] at hQ)
 refine AW.sr 3 fun K J0=>?_
 have U25:=ca4 g1 g2 g3 (ca4 g4 g5 w (ca4 w2 hj (Ja3 hj) (ca4 jl ja c1 (ca3 c2 c3 ej0))))
 simp only [push_cast,simprocAttr,scC,hdC,tlC,c3C,U25]
 refine CThen.by (Jm5 _ _ _ _) ?_
 simp only [push_cast,simprocAttr,scC,hdC,tlC,c3C,U25]
 try (refine CThen.by (on_c s R _ _ hn) ?_;simp only [push_cast,simprocAttr,scC,hdC,tlC,c3C,U25])
 try (refine CThen.by (on_c s R _ _ hn) ?_;simp only [push_cast,simprocAttr,scC,hdC,tlC,c3C,U25])
 apply J0
 have U26:=ca4 @Je1 @Jd8 @Je0 (ca2 @Ja6 U25)
 exact AW.f U26 Tru
 )
theorem Xk8 (s:SC)(R:RWs)(i:Nat)(m:Ja1)(hn:s.nj<=1000000000000)(hp:s.np<=1000000000000)(hb:¬(inB (s.xj i) (-1) ((s.nj:Int) - 1)=true/\inB (s.xp i) 0 ((s.np:Int) - 1)=true/\inB (s.xk i) 0 1=true)):Ctr Tryz.prog 98 [.agg (scC s R),.agg (xC s i)] m (.one (.bool false)) m:=by
 refine Ctr.en Tryz.func98 [.tmp 4] 77 fun hwf Q hQ=>?_
 have w1:=(show IntKind.i64.wrap ((s.nj:Int) - 1)=(s.nj:Int) - 1 from wi (by omega))
 have w2:=(show IntKind.i64.wrap ((s.np:Int) - 1)=(s.np:Int) - 1 from wi (by omega))
 rcases Va5 (inB (s.xj i) (-1) ((s.nj:Int) - 1)=true) (inB (s.xp i) 0 ((s.np:Int) - 1)=true) (inB (s.xk i) 0 1=true) with ⟨g1,g2,g3⟩|⟨g1,g2,g3⟩|⟨g1,g2,g3⟩|⟨g1,g2,g3⟩
 · exact absurd ⟨g1,g2,g3⟩ hb
 all_goals (
 try simp only [Bool.not_eq_true,Bool.not_eq_false,Classical.not_not] at g1 g2 g3
 have U27:=ca4 g1 g2 g3 (ca4 @Je1 @Jd8 @Je0 (ca4 @Ja6 @Xd0 w1 w2))
 refine AW.c 1 U27 Tru ?_
 refine AW.q fun K J0=>?_
 refine AW.sr 1 fun K J1=>?_
 simp only [push_cast,simprocAttr,U27]
 refine CThen.by (Jm5 _ _ _ _) ?_
 simp only [push_cast,simprocAttr,U27]
 try (refine CThen.by (Jm5 _ _ _ _) ?_;simp only [push_cast,simprocAttr,U27])
 try (refine CThen.by (Jm5 _ _ _ _) ?_;simp only [push_cast,simprocAttr,U27])
 exact AW.f U27 Tru
 )
theorem Xm0 (s:SC)(R:RWs)(i:Nat)(m:Ja1)(hn:s.nj<=1000000000000)(hp:s.np<=1000000000000)(g1:inB (s.xj i) (-1) ((s.nj:Int) - 1)=true)(g2:inB (s.xp i) 0 ((s.np:Int) - 1)=true)(g3:inB (s.xk i) 0 1=true)(hk:s.xk i=0):Ctr Tryz.prog 98 [.agg (scC s R),.agg (xC s i)] m (.one (.bool (decide (S0R s i)))) m:=by
 refine Ctr.en Tryz.func98 [.tmp 4] 77 fun hwf Q hQ=>?_
 have w1:=(show IntKind.i64.wrap ((s.nj:Int) - 1)=(s.nj:Int) - 1 from wi (by omega))
 have w2:=(show IntKind.i64.wrap ((s.np:Int) - 1)=(s.np:Int) - 1 from wi (by omega))
 have hk0:=hk
 rcases Qh5 (Jg7 (s.xv i 0) (-16777216) 16777216=true) ((s.xv i 1 0 ==0&&(s.xv i 1 1 ==0&&s.xv i 1 2 ==0))=true) ((s.xv i 2 0 ==0&&(s.xv i 2 1 ==0&&s.xv i 2 2 ==0))=true) (0<s.xr i) (s.xr i<=4194304) with ⟨e1,e2,e3,e4,e5⟩|⟨e1,e2,e3,e4,e5⟩|⟨e1,e2,e3,e4,e5⟩|⟨e1,e2,e3,e4,e5⟩|⟨e1,e2,e3,e4,e5⟩|⟨e1,e2,e3,e4,e5⟩ <;>
 (
 try simp only [Bool.not_eq_true,Bool.not_eq_false,Classical.not_not] at e1 e2 e3 e4 e5
 first
 | (have hz:(S0R s i):=⟨g1,g2,e1,e2,e3,e4,e5⟩
    rw [decide_eq_true hz] at hQ)
 | (have hz:¬(S0R s i):=fun ⟨qg1,qg2,qe1,qe2,qe3,qe4,qe5⟩=>by
      first|exact e1 qe1|exact Bool.false_ne_true (e1.symm.trans qe1)|exact e2 qe2|exact Bool.false_ne_true (e2.symm.trans qe2)|exact e3 qe3|exact Bool.false_ne_true (e3.symm.trans qe3)|exact e4 qe4|exact Bool.false_ne_true (e4.symm.trans qe4)|exact e5 qe5|exact Bool.false_ne_true (e5.symm.trans qe5)
    rw [decide_eq_false hz] at hQ)
 have U28:=ca4 e1 e2 e3 (ca4 e4 e5 @Je1 (ca4 @Jd8 @Je0 @Ja6 (ca4 @Xd0 w1 w2 (ca4 g1 g2 g3 (ca2 hk hk0)))))
 exact AW.f U28 (ca2 Jm5 Kf1)
 )
theorem Xk9 (s:SC)(R:RWs)(i:Nat)(m:Ja1)(hn:s.nj<=1000000000000)(hp:s.np<=1000000000000)(g1:inB (s.xj i) (-1) ((s.nj:Int) - 1)=true)(g2:inB (s.xp i) 0 ((s.np:Int) - 1)=true)(g3:inB (s.xk i) 0 1=true)(hk:(s.xk i ==1)=true):Ctr Tryz.prog 98 [.agg (scC s R),.agg (xC s i)] m (.one (.bool (decide (S1R s i)))) m:=by
 refine Ctr.en Tryz.func98 [.tmp 4] 77 fun hwf Q hQ=>?_
 have w1:=(show IntKind.i64.wrap ((s.nj:Int) - 1)=(s.nj:Int) - 1 from wi (by omega))
 have w2:=(show IntKind.i64.wrap ((s.np:Int) - 1)=(s.np:Int) - 1 from wi (by omega))
 have hk0:(s.xk i ==0)=false:=by have:=eq_of_beq hk;rw [this];decide
 rcases Kd1 (Jg7 (s.xv i 0) (-16777216) 16777216=true) (Jg7 (s.xv i 1) (-16777216) 16777216=true) (Jg7 (s.xv i 2) (-16777216) 16777216=true) ((s.xr i ==0)=true) with ⟨e1,e2,e3,e4⟩|⟨e1,e2,e3,e4⟩|⟨e1,e2,e3,e4⟩|⟨e1,e2,e3,e4⟩|⟨e1,e2,e3,e4⟩ <;>
 (
 try simp only [Bool.not_eq_true,Bool.not_eq_false,Classical.not_not] at e1 e2 e3 e4
 first
 | (have hz:(S1R s i):=⟨g1,g2,e1,hk,e2,e3,e4⟩
    rw [decide_eq_true hz] at hQ)
 | (have hz:¬(S1R s i):=fun ⟨qg1,qg2,qe1,qhk,qe2,qe3,qe4⟩=>by
      first|exact e1 qe1|exact Bool.false_ne_true (e1.symm.trans qe1)|exact e2 qe2|exact Bool.false_ne_true (e2.symm.trans qe2)|exact e3 qe3|exact Bool.false_ne_true (e3.symm.trans qe3)|exact e4 qe4|exact Bool.false_ne_true (e4.symm.trans qe4)
    rw [decide_eq_false hz] at hQ)
 have U29:=ca4 e1 e2 e3 (ca4 e4 @Je1 @Jd8 (ca4 @Je0 @Ja6 @Xd0 (ca4 w1 w2 g1 (ca4 g2 g3 hk hk0))))
 refine AW.w 11 U29 Jm5 ?_
 refine AW.sr 1 fun K J0=>?_
 simp only [push_cast,simprocAttr,U29]
 refine CThen.by (Kf1 _ _) ?_
 simp only [push_cast,simprocAttr,U29]
 try (refine CThen.by (Kf1 _ _) ?_;simp only [push_cast,simprocAttr,U29])
 try (refine CThen.by (Kf1 _ _) ?_;simp only [push_cast,simprocAttr,U29])
 exact AW.f U29 Tru
 )
theorem csh_c (s:SC)(R:RWs)(i:Nat)(m:Ja1)(hn:s.nj<=1000000000000)(hp:s.np<=1000000000000):Ctr Tryz.prog 98 [.agg (scC s R),.agg (xC s i)] m (.one (.bool (decide (ShR s i)))) m:=by
 by_cases hg:(inB (s.xj i) (-1) ((s.nj:Int) - 1)=true/\inB (s.xp i) 0 ((s.np:Int) - 1)=true/\inB (s.xk i) 0 1=true)
 ·obtain ⟨g1,g2,g3⟩:=hg
  by_cases hk:s.xk i=0
  ·have e:decide (ShR s i)=decide (S0R s i):=by congr 1;exact if_pos hk
   rw [e];exact Xm0 s R i m hn hp g1 g2 g3 hk
  have e:decide (ShR s i)=decide (S1R s i):=by congr 1;exact if_neg hk
  have hk1:(s.xk i ==1)=true:=by have:=inB_iff.1 g3;simp;omega
  rw [e];exact Xk9 s R i m hn hp g1 g2 g3 hk1
 have e:decide (ShR s i)=false:=decide_eq_false fun h=>hg (by
  unfold ShR at h
  split at h
  ·rename_i h0;exact ⟨h.1,h.2.1,inB_iff.2 (by omega)⟩
  exact ⟨h.1,h.2.1,inB_iff.2 (by have:=eq_of_beq h.2.2.2.1;omega)⟩)
 rw [e];exact Xk8 s R i m hn hp hg
structure ScR (pt tt kt jt xt:Nat)(m:Ja1)(s:SC)(R:RWs):Prop where
 hp:∃ k e,m[R.p]?=some ⟨k,pt,R.vp,e,Jb0 s.np (pC s)⟩
 ht:∃ k e,m[R.t]?=some ⟨k,tt,R.vt,e,Jb0 s.nt (tC s R)⟩
 hk:∀ i,i<s.nt->∃ k e,m[R.k i]?=some ⟨k,kt,R.vk i,e,Jb0 (s.kn i) (kC s i)⟩
 hj:∃ k e,m[R.j]?=some ⟨k,jt,R.vj,e,Jb0 s.nj (jC s)⟩
 hx:∃ k e,m[R.x]?=some ⟨k,xt,R.vx,e,Jb0 s.nx (xC s)⟩
 np:s.np<=1000000000000
 nt:s.nt<=1000000000000
 nj:s.nj<=1000000000000
 nx:s.nx<=1000000000000
 nk:∀ i,i<s.nt->s.kn i<=1000000000000
theorem ScR.app {pt tt kt jt xt:Nat}{m:Ja1}{s:SC}{R:RWs}(h:ScR pt tt kt jt xt m s R)(L:Ja1):ScR pt tt kt jt xt (m++L) s R where
 hp:=by obtain ⟨k,e,h1⟩:=h.hp;exact ⟨k,e,Ja3 h1 L⟩
 ht:=by obtain ⟨k,e,h1⟩:=h.ht;exact ⟨k,e,Ja3 h1 L⟩
 hk:=fun i hi=>by obtain ⟨k,e,h1⟩:=h.hk i hi;exact ⟨k,e,Ja3 h1 L⟩
 hj:=by obtain ⟨k,e,h1⟩:=h.hj;exact ⟨k,e,Ja3 h1 L⟩
 hx:=by obtain ⟨k,e,h1⟩:=h.hx;exact ⟨k,e,Ja3 h1 L⟩
 np:=h.np
 nt:=h.nt
 nj:=h.nj
 nx:=h.nx
 nk:=h.nk
theorem ScR.bel {pt tt kt jt xt:Nat}{m:Ja1}{s:SC}{R:RWs}(h:ScR pt tt kt jt xt m s R)(L:Nat)(hL:m.length<=L):(scC s R).all (CV.below L)=true:=by
 obtain ⟨_,_,h1⟩:=h.hp
 obtain ⟨_,_,h2⟩:=h.ht
 obtain ⟨_,_,h3⟩:=h.hj
 obtain ⟨_,_,h4⟩:=h.hx
 have:=Ja8 h1
 have:=Ja8 h2
 have:=Ja8 h3
 have:=Ja8 h4
 simp [scC,hdC,tlC,c3C,CV.below]
 omega
def glB (s:SC)(i:Nat):Bool:=decide (0<=s.xp i)&&(decide (s.xp i<(s.np:Int))&&(s.pk (s.xp i).toNat ==3))
theorem rla_c (s:SC)(R:RWs)(m:Ja1)(hR:ScR 138 143 285 146 150 m s R):Ctr Tryz.prog 74 [.agg (scC s R)] m (.one (.sl m.length 0 0 (Jj1 (glB s) s.nx).length)) (m++[⟨.grow,3,0,1,iL (Jj1 (glB s) s.nx)⟩]):=by
 refine Ctr.en Tryz.func74 [.tmp 2] 42 fun hwf Q hQ=>?_
 obtain ⟨kp,ep,hp⟩:=hR.hp
 have lp:=Ja8 hp
 obtain ⟨kx,ex,hx⟩:=hR.hx
 have lx:=Ja8 hx
 have np:=hR.np
 have nx:=hR.nx
 have pl:(Jb0 s.np (pC s)).length=s.np*5:=Ja5 (w:=5) (F:=pC s) (fun _=>rfl) _
 have xl:(Jb0 s.nx (xC s)).length=s.nx*13:=Ja5 (w:=13) (F:=xC s) (fun _=>rfl) _
 have hlt0:∀ k,¬m.length+k<m.length:=fun k=>by omega
 have ill:=fun l=>Ki8 l
 have w1:=(show IntKind.i64.wrap ((s.np:Int) - 1)=(s.np:Int) - 1 from wi (by omega))
 have U1:=ca4 hp (Ja3 hp) hx (ca4 (Ja3 hx) pl xl (ca4 w1 ill @Qy5 (ca4 @Qy6 @Je1 @Jd8 (ca2 @Je0 @Ja6))))
 refine AW.w 5 U1 Tru fun K J0=>?_
 refine AW.nilTm 3 1 3 rfl ?_
 try simp only [push_cast,simprocAttr,U1]
 refine AW.loopK [1] (fun i=>i<=s.nx) (fun i=>[(3,.one (.sl (m.length+1) (Jj1 (glB s) i).length 0 (Jj1 (glB s) i).length)),(4,.one (.int .i64 (i:Int)))]) (fun i=>[(m.length+1,⟨.grow,3,(Jj1 (glB s) i).length,1,iL (Jj1 (glB s) i)⟩)]) (fun i=>s.nx - i) 0 (by omega) ?_ ?_ fun i hi2=>?_
 · first|rfl|(simp only [KS,simprocAttr,Jj1,Int.natCast_zero,List.length_nil]<;>repeat' (first|rfl|apply And.intro))
 · simp only [Ja4,push_cast,simprocAttr,Jj1]<;>rfl
 try simp only [Jb3,Ja4,push_cast,simprocAttr,U1]
 refine AW.w 2 U1 Tru fun K J1=>?_
 refine AW.cond rfl (fun h10=>?_) (fun h10=>?_)
 ·have hlt:i<s.nx:=by have:=of_decide_eq_true h10;omega
  have c1:(0:Int)<=(i:Int):=by omega
  have c2:(i:Int)<(s.nx:Int):=by omega
  have c3:i*13+13<=s.nx*13:=by omega
  have ga:=Jb5 (w:=13) (F:=xC s) (fun _=>rfl) hlt
  have gx1:(Jb0 s.nx (xC s))[i*13+1]?=some (.int .i64 (s.xp i)):=Ji4 (w:=13) (F:=xC s) (fun _=>rfl) hlt (a:=1) (by omega)
  have gx:=Ka2 s i
  have hol:=Kq9 (glB s) i
  have q1:(Jj1 (glB s) i).length<=140737488355327:=by omega
  have q2:((Jj1 (glB s) i).length+1)*8<=140737488355328:=by omega
  refine AW.w 4 Tru Tru fun K J1=>?_
  have U2:=ca4 U1 c1 c2 (ca4 c3 ga gx1 (ca4 gx q1 q2 hlt))
  refine AW.c 1 U2 Tru ?_
  refine AW.q fun K J2=>?_
  have hk:¬0<=s.xp i\/(0<=s.xp i/\¬s.xp i<(s.np:Int))\/(0<=s.xp i/\s.xp i<(s.np:Int)/\(s.pk (s.xp i).toNat ==3)=true)\/(0<=s.xp i/\s.xp i<(s.np:Int)/\(s.pk (s.xp i).toNat ==3)=false):=by
    cases (s.pk (s.xp i).toNat ==3)<;>simp<;>omega
  rcases hk with e1|⟨e1,e2⟩|⟨e1,e2,e3⟩|⟨e1,e2,e3⟩
  ·have hg:glB s i=false:=by simp only [glB,decide_eq_false e1,Bool.false_and]
   have hu:Jj1 (glB s) (i+1)=Jj1 (glB s) i:=if_neg (by rw [hg];decide)
   have hu2:=True.intro
   have U3:=ca2 U2 e1
   refine AW.w 6 U3 Tru ?_
   have hwi:IntKind.i64.wrap ((i:Int)+1)=(i:Int)+1:=wi (by omega)
   refine ⟨i+1,by omega,by omega,?_⟩
   try simp only [Jb3,Ja4,push_cast,simprocAttr,U3,hwi,hu,hu2]
   first
    | exact Weak.same (by simp only [KS,simprocAttr,hwi,hu,hu2]) (by first|rfl|simp only [KS,simprocAttr,hwi,hu,hu2])
    | exact Weak.to (extra:=[_]) (by simp only [KS,simprocAttr,hwi,hu,hu2]) (by first|rfl|(simp only [List.append_assoc,List.cons_append,List.nil_append];rfl)) (by first|rfl|(simp [AV.below,CV.below];done)|(simp [AV.below,CV.below];omega)) (by first|exact hwf|exact MWf.app (hwf.grow (by simp)) (Ja0 (by exact hR.bel _ (by simp)) (Ja0 (Ji3 _ _) Jb1)))
  ·have hg:glB s i=false:=by simp only [glB,decide_eq_false e2,Bool.false_and,Bool.and_false]
   have hu:Jj1 (glB s) (i+1)=Jj1 (glB s) i:=if_neg (by rw [hg];decide)
   have hu2:=True.intro
   have U4:=ca3 U2 e1 e2
   refine AW.w 6 U4 Tru ?_
   have hwi:IntKind.i64.wrap ((i:Int)+1)=(i:Int)+1:=wi (by omega)
   refine ⟨i+1,by omega,by omega,?_⟩
   try simp only [Jb3,Ja4,push_cast,simprocAttr,U4,hwi,hu,hu2]
   first
    | exact Weak.same (by simp only [KS,simprocAttr,hwi,hu,hu2]) (by first|rfl|simp only [KS,simprocAttr,hwi,hu,hu2])
    | exact Weak.to (extra:=[_]) (by simp only [KS,simprocAttr,hwi,hu,hu2]) (by first|rfl|(simp only [List.append_assoc,List.cons_append,List.nil_append];rfl)) (by first|rfl|(simp [AV.below,CV.below];done)|(simp [AV.below,CV.below];omega)) (by first|exact hwf|exact MWf.app (hwf.grow (by simp)) (Ja0 (by exact hR.bel _ (by simp)) (Ja0 (Ji3 _ _) Jb1)))
  ·have hg:glB s i=true:=by simp only [glB,decide_eq_true e1,decide_eq_true e2,e3,Bool.and_self]
   have hu:Jj1 (glB s) (i+1)=Jj1 (glB s) i++[(i:Int)]:=if_pos hg
   have hu2:(Jj1 (glB s) i++[(i:Int)]).length=(Jj1 (glB s) i).length+1:=by simp
   obtain ⟨j,hj⟩:∃ j,j=(s.xp i).toNat:=⟨_,rfl⟩
   have hxj:s.xp i=(j:Int):=by omega
   have hjn:j<s.np:=by omega
   have d1:(0:Int)<=(j:Int):=by omega
   have d2:(j:Int)<(s.np:Int):=by omega
   have d3:j*5+5<=s.np*5:=by omega
   have d4:(Jb0 s.np (pC s))[j*5]?=some (.int .i64 (s.pk j)):=Ji4 (w:=5) (F:=pC s) (fun _=>rfl) hjn (a:=0) (by omega)
   rw [<-hj] at e3
   have U5:=ca4 U2 hxj d1 (ca4 d2 d3 d4 (ca2 e3 hjn))
   refine AW.w 6 U5 Tru ?_
   have hwi:IntKind.i64.wrap ((i:Int)+1)=(i:Int)+1:=wi (by omega)
   refine ⟨i+1,by omega,by omega,?_⟩
   try simp only [Jb3,Ja4,push_cast,simprocAttr,U5,hwi,hu,hu2]
   first
    | exact Weak.same (by simp only [KS,simprocAttr,hwi,hu,hu2]) (by first|rfl|simp only [KS,simprocAttr,hwi,hu,hu2])
    | exact Weak.to (extra:=[_]) (by simp only [KS,simprocAttr,hwi,hu,hu2]) (by first|rfl|(simp only [List.append_assoc,List.cons_append,List.nil_append];rfl)) (by first|rfl|(simp [AV.below,CV.below];done)|(simp [AV.below,CV.below];omega)) (by first|exact hwf|exact MWf.app (hwf.grow (by simp)) (Ja0 (by exact hR.bel _ (by simp)) (Ja0 (Ji3 _ _) Jb1)))
  have hg:glB s i=false:=by simp only [glB,e3,Bool.and_false]
  have hu:Jj1 (glB s) (i+1)=Jj1 (glB s) i:=if_neg (by rw [hg];decide)
  have hu2:=True.intro
  obtain ⟨j,hj⟩:∃ j,j=(s.xp i).toNat:=⟨_,rfl⟩
  have hxj:s.xp i=(j:Int):=by omega
  have hjn:j<s.np:=by omega
  have d1:(0:Int)<=(j:Int):=by omega
  have d2:(j:Int)<(s.np:Int):=by omega
  have d3:j*5+5<=s.np*5:=by omega
  have d4:(Jb0 s.np (pC s))[j*5]?=some (.int .i64 (s.pk j)):=Ji4 (w:=5) (F:=pC s) (fun _=>rfl) hjn (a:=0) (by omega)
  rw [<-hj] at e3
  have U6:=ca4 U2 hxj d1 (ca4 d2 d3 d4 (ca2 e3 hjn))
  refine AW.w 6 U6 Tru ?_
  have hwi:IntKind.i64.wrap ((i:Int)+1)=(i:Int)+1:=wi (by omega)
  refine ⟨i+1,by omega,by omega,?_⟩
  try simp only [Jb3,Ja4,push_cast,simprocAttr,U6,hwi,hu,hu2]
  first
   | exact Weak.same (by simp only [KS,simprocAttr,hwi,hu,hu2]) (by first|rfl|simp only [KS,simprocAttr,hwi,hu,hu2])
   | exact Weak.to (extra:=[_]) (by simp only [KS,simprocAttr,hwi,hu,hu2]) (by first|rfl|(simp only [List.append_assoc,List.cons_append,List.nil_append];rfl)) (by first|rfl|(simp [AV.below,CV.below];done)|(simp [AV.below,CV.below];omega)) (by first|exact hwf|exact MWf.app (hwf.grow (by simp)) (Ja0 (by exact hR.bel _ (by simp)) (Ja0 (Ji3 _ _) Jb1)))
 have hin:i=s.nx:=by have:=of_decide_eq_false h10;omega
 rw [hin]
 refine AW.w 4 U1 Tru ?_
 refine hQ _ _ _ ?_
 refine RetP.pick [(m.length+1,(Jj1 (glB s) s.nx).length)] (by first|exact Or.inr rfl|exact Or.inl rfl) ?_ ?_ ?_ hwf ?_
 · simp only [Jd3,Ja9,Jb6,AV.tv,push_cast,simprocAttr]
   simp [Km6,Kq7,Kb1,Js3,Jh0,hlt0]
 · simp only [Jm9,push_cast,simprocAttr]
 · simp [Jc4]
 exact Ja0 (Ji3 _ _) Jb1
theorem Vm7 (s:SC)(R:RWs)(m:Ja1)(hR:ScR 140 119 223 148 155 m s R):Ctr Tryz.prog 38 [.agg (scC s R)] m (.one (.sl m.length 0 0 (Jj1 (glB s) s.nx).length)) (m++[⟨.grow,3,0,1,iL (Jj1 (glB s) s.nx)⟩]):=by
 refine Ctr.en Tryz.func38 [.tmp 2] 39 fun hwf Q hQ=>?_
 obtain ⟨kp,ep,hp⟩:=hR.hp
 have lp:=Ja8 hp
 obtain ⟨kx,ex,hx⟩:=hR.hx
 have lx:=Ja8 hx
 have np:=hR.np
 have nx:=hR.nx
 have pl:(Jb0 s.np (pC s)).length=s.np*5:=Ja5 (w:=5) (F:=pC s) (fun _=>rfl) _
 have xl:(Jb0 s.nx (xC s)).length=s.nx*13:=Ja5 (w:=13) (F:=xC s) (fun _=>rfl) _
 have hlt0:∀ k,¬m.length+k<m.length:=fun k=>by omega
 have ill:=fun l=>Ki8 l
 have w1:=(show IntKind.i64.wrap ((s.np:Int) - 1)=(s.np:Int) - 1 from wi (by omega))
 have U7:=ca4 hp (Ja3 hp) hx (ca4 (Ja3 hx) pl xl (ca4 w1 ill @Qy5 (ca4 @Qy6 @Je1 @Jd8 (ca2 @Je0 @Ja6))))
 refine AW.w 5 U7 Tru fun K J0=>?_
 refine AW.nilTm 3 1 3 rfl ?_
 try simp only [push_cast,simprocAttr,U7]
 refine AW.loopK [1,7,8] (fun i=>i<=s.nx) (fun i=>[(3,.one (.sl (m.length+1) (Jj1 (glB s) i).length 0 (Jj1 (glB s) i).length)),(9,.one (.int .i64 (i:Int)))]) (fun i=>[(m.length+1,⟨.grow,3,(Jj1 (glB s) i).length,1,iL (Jj1 (glB s) i)⟩)]) (fun i=>s.nx - i) 0 (by omega) ?_ ?_ fun i hi2=>?_
 · first|rfl|(simp only [KS,simprocAttr,Jj1,Int.natCast_zero,List.length_nil]<;>repeat' (first|rfl|apply And.intro))
 · simp only [Ja4,push_cast,simprocAttr,Jj1]<;>rfl
 try simp only [Jb3,Ja4,push_cast,simprocAttr,U7]
 refine AW.w 2 U7 Tru fun K J1=>?_
 refine AW.cond rfl (fun h10=>?_) (fun h10=>?_)
 ·have hlt:i<s.nx:=by have:=of_decide_eq_true h10;omega
  have c1:(0:Int)<=(i:Int):=by omega
  have c2:(i:Int)<(s.nx:Int):=by omega
  have c3:i*13+13<=s.nx*13:=by omega
  have ga:=Jb5 (w:=13) (F:=xC s) (fun _=>rfl) hlt
  have gx1:(Jb0 s.nx (xC s))[i*13+1]?=some (.int .i64 (s.xp i)):=Ji4 (w:=13) (F:=xC s) (fun _=>rfl) hlt (a:=1) (by omega)
  have gx:=Ka2 s i
  have hol:=Kq9 (glB s) i
  have q1:(Jj1 (glB s) i).length<=140737488355327:=by omega
  have q2:((Jj1 (glB s) i).length+1)*8<=140737488355328:=by omega
  refine AW.w 4 Tru Tru fun K J1=>?_
  have U8:=ca4 U7 c1 c2 (ca4 c3 ga gx1 (ca4 gx q1 q2 hlt))
  refine AW.c 1 U8 Tru ?_
  refine AW.q fun K J2=>?_
  have hk:inB (s.xp i) 0 ((s.np:Int) - 1)=false\/(inB (s.xp i) 0 ((s.np:Int) - 1)=true/\(s.pk (s.xp i).toNat ==3)=true)\/(inB (s.xp i) 0 ((s.np:Int) - 1)=true/\(s.pk (s.xp i).toNat ==3)=false):=by
    cases inB (s.xp i) 0 ((s.np:Int) - 1)<;>cases (s.pk (s.xp i).toNat ==3)<;>simp
  rcases hk with e1|⟨e1,e3⟩|⟨e1,e3⟩
  ·have hg:glB s i=false:=by
     have e2:¬(0<=s.xp i/\s.xp i<=(s.np:Int) - 1):=fun h=>by rw [inB_iff.2 h] at e1;cases e1
     by_cases q:0<=s.xp i
     · simp only [glB,decide_eq_false (show ¬s.xp i<(s.np:Int) by omega),Bool.false_and,Bool.and_false]
     simp only [glB,decide_eq_false q,Bool.false_and]
   have hu:Jj1 (glB s) (i+1)=Jj1 (glB s) i:=if_neg (by rw [hg];decide)
   have hu2:=True.intro
   have U9:=ca2 U8 e1
   refine AW.w 6 U9 Jm5 ?_
   have hwi:IntKind.i64.wrap ((i:Int)+1)=(i:Int)+1:=wi (by omega)
   refine ⟨i+1,by omega,by omega,?_⟩
   try simp only [Jb3,Ja4,push_cast,simprocAttr,U9,hwi,hu,hu2]
   first
    | exact Weak.to (extra:=[_]) (by simp only [KS,simprocAttr,hwi,hu,hu2]) (by first|rfl|(simp only [List.append_assoc,List.cons_append,List.nil_append];rfl)) (by first|rfl|(simp [AV.below,CV.below];done)|(simp [AV.below,CV.below];omega)) (by first|exact hwf|exact MWf.app (hwf.grow (by simp)) (Ja0 (by exact hR.bel _ (by simp)) (Ja0 (Ji3 _ _) Jb1)))
    | exact Weak.to (extra:=[_,_]) (by simp only [KS,simprocAttr,hwi,hu,hu2]) (by first|rfl|(simp only [List.append_assoc,List.cons_append,List.nil_append];rfl)) (by first|rfl|(simp [AV.below,CV.below];done)|(simp [AV.below,CV.below];omega)) (by first|exact hwf|exact MWf.app (hwf.grow (by simp)) (Ja0 (by exact hR.bel _ (by simp)) (Ja0 (Ji3 _ _) Jb1)))
  ·have e2:=inB_iff.1 e1
   have hg:glB s i=true:=by simp only [glB,decide_eq_true e2.1,decide_eq_true (show s.xp i<(s.np:Int) by omega),e3,Bool.and_self]
   have hu:Jj1 (glB s) (i+1)=Jj1 (glB s) i++[(i:Int)]:=if_pos hg
   have hu2:(Jj1 (glB s) i++[(i:Int)]).length=(Jj1 (glB s) i).length+1:=by simp
   obtain ⟨j,hj⟩:∃ j,j=(s.xp i).toNat:=⟨_,rfl⟩
   have hxj:s.xp i=(j:Int):=by omega
   have hjn:j<s.np:=by omega
   have d1:(0:Int)<=(j:Int):=by omega
   have d2:(j:Int)<(s.np:Int):=by omega
   have d3:j*5+5<=s.np*5:=by omega
   have d4:(Jb0 s.np (pC s))[j*5]?=some (.int .i64 (s.pk j)):=Ji4 (w:=5) (F:=pC s) (fun _=>rfl) hjn (a:=0) (by omega)
   rw [<-hj] at e3
   rw [hxj] at e1
   have U10:=ca4 U8 hxj e1 (ca4 d1 d2 d3 (ca3 d4 e3 hjn))
   refine AW.w 6 U10 Jm5 ?_
   have hwi:IntKind.i64.wrap ((i:Int)+1)=(i:Int)+1:=wi (by omega)
   refine ⟨i+1,by omega,by omega,?_⟩
   try simp only [Jb3,Ja4,push_cast,simprocAttr,U10,hwi,hu,hu2]
   first
    | exact Weak.to (extra:=[_]) (by simp only [KS,simprocAttr,hwi,hu,hu2]) (by first|rfl|(simp only [List.append_assoc,List.cons_append,List.nil_append];rfl)) (by first|rfl|(simp [AV.below,CV.below];done)|(simp [AV.below,CV.below];omega)) (by first|exact hwf|exact MWf.app (hwf.grow (by simp)) (Ja0 (by exact hR.bel _ (by simp)) (Ja0 (Ji3 _ _) Jb1)))
    | exact Weak.to (extra:=[_,_]) (by simp only [KS,simprocAttr,hwi,hu,hu2]) (by first|rfl|(simp only [List.append_assoc,List.cons_append,List.nil_append];rfl)) (by first|rfl|(simp [AV.below,CV.below];done)|(simp [AV.below,CV.below];omega)) (by first|exact hwf|exact MWf.app (hwf.grow (by simp)) (Ja0 (by exact hR.bel _ (by simp)) (Ja0 (Ji3 _ _) Jb1)))
  have e2:=inB_iff.1 e1
  have hg:glB s i=false:=by simp only [glB,e3,Bool.and_false]
  have hu:Jj1 (glB s) (i+1)=Jj1 (glB s) i:=if_neg (by rw [hg];decide)
  have hu2:=True.intro
  obtain ⟨j,hj⟩:∃ j,j=(s.xp i).toNat:=⟨_,rfl⟩
  have hxj:s.xp i=(j:Int):=by omega
  have hjn:j<s.np:=by omega
  have d1:(0:Int)<=(j:Int):=by omega
  have d2:(j:Int)<(s.np:Int):=by omega
  have d3:j*5+5<=s.np*5:=by omega
  have d4:(Jb0 s.np (pC s))[j*5]?=some (.int .i64 (s.pk j)):=Ji4 (w:=5) (F:=pC s) (fun _=>rfl) hjn (a:=0) (by omega)
  rw [<-hj] at e3
  rw [hxj] at e1
  have U11:=ca4 U8 hxj e1 (ca4 d1 d2 d3 (ca3 d4 e3 hjn))
  refine AW.w 6 U11 Jm5 ?_
  have hwi:IntKind.i64.wrap ((i:Int)+1)=(i:Int)+1:=wi (by omega)
  refine ⟨i+1,by omega,by omega,?_⟩
  try simp only [Jb3,Ja4,push_cast,simprocAttr,U11,hwi,hu,hu2]
  first
   | exact Weak.to (extra:=[_]) (by simp only [KS,simprocAttr,hwi,hu,hu2]) (by first|rfl|(simp only [List.append_assoc,List.cons_append,List.nil_append];rfl)) (by first|rfl|(simp [AV.below,CV.below];done)|(simp [AV.below,CV.below];omega)) (by first|exact hwf|exact MWf.app (hwf.grow (by simp)) (Ja0 (by exact hR.bel _ (by simp)) (Ja0 (Ji3 _ _) Jb1)))
   | exact Weak.to (extra:=[_,_]) (by simp only [KS,simprocAttr,hwi,hu,hu2]) (by first|rfl|(simp only [List.append_assoc,List.cons_append,List.nil_append];rfl)) (by first|rfl|(simp [AV.below,CV.below];done)|(simp [AV.below,CV.below];omega)) (by first|exact hwf|exact MWf.app (hwf.grow (by simp)) (Ja0 (by exact hR.bel _ (by simp)) (Ja0 (Ji3 _ _) Jb1)))
 have hin:i=s.nx:=by have:=of_decide_eq_false h10;omega
 rw [hin]
 refine AW.w 4 U7 Tru ?_
 refine hQ _ _ _ ?_
 refine RetP.pick [(m.length+1,(Jj1 (glB s) s.nx).length)] (by first|exact Or.inr rfl|exact Or.inl rfl) ?_ ?_ ?_ hwf ?_
 · simp only [Jd3,Ja9,Jb6,AV.tv,push_cast,simprocAttr]
   simp [Km6,Kq7,Kb1,Js3,Jh0,hlt0]
 · simp only [Jm9,push_cast,simprocAttr]
 · simp [Jc4]
 exact Ja0 (Ji3 _ _) Jb1
def fbN (f:Nat->Bool):Nat->Nat
 | 0=>0
 | n+1=>if fbN f n<n then fbN f n else if f n=true then n+1 else n
theorem Kj1 {f:Nat->Bool}{i:Nat}(h:∀ k,k<i->f k=true)(hi:f i=false):∀ n,i<n->fbN f n=i
 | 0,h0=>by omega
 | n+1,h0=>by
  unfold fbN
  rcases Nat.lt_or_ge i n with q|q
  ·have:=Kj1 h hi n q
   rw [if_pos (by omega)];exact this
  have e:i=n:=by omega
  subst e
  have:fbN f i=i:=by
   clear h0 q hi
   induction i with
   | zero=>rfl
   | succ k ih =>
    have ih:=ih fun j hj=>h j (by omega)
    unfold fbN
    rw [if_neg (by omega),if_pos (h k (by omega))]
  rw [if_neg (by omega),hi];rfl
theorem Jx2 {f:Nat->Bool}:∀ n,(∀ k,k<n->f k=true)->fbN f n=n
 | 0,_=>rfl
 | n+1,h=>by
  have:=Jx2 n fun k hk=>h k (by omega)
  unfold fbN
  rw [if_neg (by omega),if_pos (h n (by omega))]
theorem Kc7 (f:Nat->Bool):∀ n,fbN f n<=n
 | 0=>Nat.le_refl _
 | n+1=>by
  have:=Kc7 f n
  unfold fbN
  split
  ·omega
  split<;>omega
theorem Qg7 {f:Nat->Bool}:∀ n,fbN f n=n->∀ k,k<n->f k=true
 | 0,_,k,hk=>by omega
 | n+1,h,k,hk=>by
  unfold fbN at h
  split at h
  ·omega
  rename_i h0
  have:=Kc7 f n
  split at h
  ·rename_i h1
   rcases Nat.lt_or_ge k n with q|q
   ·exact Qg7 n (by omega) k q
   obtain rfl:k=n:=by omega
   exact h1
  omega
def TrS (s:SC)(i:Nat):Prop:=TrR (s.tw i) (s.kn i) (s.kt i) (s.kv i)
instance (s:SC)(i:Nat):Decidable (TrS s i):=by unfold TrS;exact inferInstance
def Jg1 (s:SC):Int × Int :=
 if ¬HdR s then (21,0) else if 32<s.np then (22,32) else if fbN (fun i=>decide (PaR s i)) s.np<s.np then (22,(fbN (fun i=>decide (PaR s i)) s.np:Nat)) else
 if 32<s.nt then (23,32) else if fbN (fun i=>decide (TrS s i)) s.nt<s.nt then (23,(fbN (fun i=>decide (TrS s i)) s.nt:Nat)) else
 if 32<s.nj then (24,32) else if fbN (fun i=>decide (JoR s i)) s.nj<s.nj then (24,(fbN (fun i=>decide (JoR s i)) s.nj:Nat)) else
 if 128<s.nx then (25,128) else if fbN (fun i=>decide (ShR s i)) s.nx<s.nx then (25,(fbN (fun i=>decide (ShR s i)) s.nx:Nat)) else
 if ¬LeR s then (26,0) else if 16<(Jj1 (glB s) s.nx).length then (27,(Jj1 (glB s) s.nx).getD 16 0) else (0,0)
theorem Qy7 (l:List Int)(i:Nat)(h:i<l.length):(iL l)[i]?=some (.int .i64 (l.getD i 0)):=iL_at (by rw [List.getD_eq_getElem?_getD,List.getElem?_eq_getElem h];rfl)
theorem Qd6 (s:SC)(R:RWs)(m:Ja1)(hR:ScR 138 143 285 146 150 m s R):Ctr Tryz.prog 18 [.agg (scC s R)] m (.tup [(false,[.int .i64 (Jg1 s).1]),(false,[.int .i64 (Jg1 s).2])]) m:=by
 refine Ctr.en Tryz.func18 [.tmp 2,.tmp 3] 98 fun hwf Q hQ=>?_
 obtain ⟨kp,ep,hp⟩:=hR.hp
 have lp:=Ja8 hp
 obtain ⟨kt,et,ht⟩:=hR.ht
 have lt:=Ja8 ht
 obtain ⟨kj,ej,hj⟩:=hR.hj
 have lj:=Ja8 hj
 obtain ⟨kx,ex,hx⟩:=hR.hx
 have lx:=Ja8 hx
 have np:=hR.np
 have nt:=hR.nt
 have nj:=hR.nj
 have nx:=hR.nx
 have pl:(Jb0 s.np (pC s)).length=s.np*5:=Ja5 (w:=5) (F:=pC s) (fun _=>rfl) _
 have tl:(Jb0 s.nt (tC s R)).length=s.nt*2:=Ja5 (w:=2) (F:=tC s R) (fun _=>rfl) _
 have jl:(Jb0 s.nj (jC s)).length=s.nj*4:=Ja5 (w:=4) (F:=jC s) (fun _=>rfl) _
 have xl:(Jb0 s.nx (xC s)).length=s.nx*13:=Ja5 (w:=13) (F:=xC s) (fun _=>rfl) _
 have hlt0:∀ k,¬m.length+k<m.length:=fun k=>by omega
 have hbox:∀ i,pC s i=[.int .i64 (s.pk i),.int .i64 (s.pc i 0),.int .i64 (s.pc i 1),.int .i64 (s.pc i 2),.int .i64 (s.pr i)]:=fun _=>rfl
 have hbt:∀ i,tC s R i=[.int .i64 (s.tw i),.sl (R.k i) (R.vk i) 0 (s.kn i)]:=fun _=>rfl
 have hbx:∀ i,xC s i=[.int .i64 (s.xj i),.int .i64 (s.xp i),.int .i64 (s.xk i),.int .i64 (s.xv i 0 0),.int .i64 (s.xv i 0 1),.int .i64 (s.xv i 0 2),.int .i64 (s.xv i 1 0),.int .i64 (s.xv i 1 1),.int .i64 (s.xv i 1 2),.int .i64 (s.xv i 2 0),.int .i64 (s.xv i 2 1),.int .i64 (s.xv i 2 2),.int .i64 (s.xr i)]:=fun _=>rfl
 have ill:=fun l=>Ki8 l
 have U1:=ca4 hp (Ja3 hp) ht (ca4 (Ja3 ht) hj (Ja3 hj) (ca4 hx (Ja3 hx) pl (ca4 tl jl xl (ca4 ill @Je1 @Jd8 (ca2 @Je0 @Ja6)))))
 refine AW.w 3 U1 (rhd_c s) fun K J0=>?_
 refine AW.cond rfl (fun h12=>?_) (fun h12=>?_)
 ·have hA:¬HdR s:=by simpa using h12
  rw [show Jg1 s=(21,0) from by unfold Jg1;rw [if_pos hA]] at hQ
  exact AW.f U1 Tru
 have hA:¬¬HdR s:=by simpa using h12
 refine AW.w 4 U1 Tru fun K J0=>?_
 refine AW.cond rfl (fun h16=>?_) (fun h16=>?_)
 ·have q1:32<s.np:=by have:=of_decide_eq_true h16;omega
  rw [show Jg1 s=(22,32) from by unfold Jg1;rw [if_neg hA,if_pos q1]] at hQ
  exact AW.f U1 Tru
 have h1:¬32<s.np:=by have:=of_decide_eq_false h16;omega
 refine AW.w 5 U1 Tru fun K J0=>?_
 refine AW.loopK [1] (fun i=>i<=s.np/\∀ k,k<i->PaR s k) (fun i=>[(4,.one (.int .i64 (i:Int)))]) (fun i=>[]) (fun i=>s.np - i) 0 ⟨by omega,fun k hk=>by omega⟩ ?_ ?_ fun i hi4=>?_
 · first|rfl|(simp only [KS,simprocAttr,Int.natCast_zero]<;>repeat' (first|rfl|apply And.intro))
 · first|rfl|(simp only [Ja4,push_cast,simprocAttr,U1,Int.natCast_zero]<;>rfl)
 obtain ⟨hin,hok⟩:=hi4
 try simp only [Jb3,Ja4,push_cast,simprocAttr,U1]
 refine AW.w 2 U1 Tru fun K J1=>?_
 refine AW.cond rfl (fun h21=>?_) (fun h21=>?_)
 ·have hlt:i<s.np:=by have:=of_decide_eq_true h21;omega
  have c1:(0:Int)<=(i:Int):=by omega
  have c2:(i:Int)<(s.np:Int):=by omega
  have c3:i*5+5<=s.np*5:=by omega
  have ga:=Jb5 (w:=5) (F:=pC s) (fun _=>rfl) hlt
  refine AW.w 4 Tru Tru fun K J1=>?_
  have U2:=ca4 U1 c1 c2 (ca3 c3 ga hbox)
  refine AW.c 1 U2 (rpa_c s i) ?_
  refine AW.cond rfl (fun h30=>?_) (fun h30=>?_)
  ·have hno:¬PaR s i:=by simpa [TrS] using h30
   have hfb:fbN (fun i=>decide (PaR s i)) s.np=i:=Kj1 (fun k hk=>decide_eq_true (hok k hk)) (decide_eq_false hno) _ hlt
   rw [show Jg1 s=(22,((i:Nat):Int)) from by unfold Jg1;rw [if_neg hA,if_neg h1,if_pos (by rw [hfb];exact hlt),hfb]] at hQ
   exact AW.f U2 Tru
  have hnow:PaR s i:=by simpa [TrS] using h30
  refine AW.w 3 U2 Tru ?_
  have hwi:IntKind.i64.wrap ((i:Int)+1)=(i:Int)+1:=wi (by omega)
  refine ⟨i+1,⟨by omega,fun k hk=>by
    rcases Nat.lt_or_ge k i with h|h
    · exact hok k h
    obtain rfl:k=i:=by omega
    exact hnow⟩,by omega,?_⟩
  try simp only [Jb3,Ja4,push_cast,simprocAttr,U2,hwi]
  first
   | exact Weak.same (by simp only [KS,simprocAttr,hwi]) (by first|rfl|simp only [KS,simprocAttr,hwi])
   | exact Weak.to (extra:=[_]) (by simp only [KS,simprocAttr,hwi]) (by first|rfl|(simp only [List.append_assoc,List.cons_append,List.nil_append];rfl)) (by first|rfl|(simp [AV.below,CV.below];done)|(simp [AV.below,CV.below];omega)) (by
      first|exact hwf|refine MWf.app (hwf.grow (by simp)) ?_
      repeat (first|exact Jb1|(refine Ja0 ?_ ?_;· first|rfl|(simp [CV.below];done)|(simp [CV.below];omega))))
 have hie:i=s.np:=by have:=of_decide_eq_false h21;omega
 have f1:¬fbN (fun i=>decide (PaR s i)) s.np<s.np:=by rw [Jx2 s.np fun k hk=>decide_eq_true (hok k (by omega))];omega
 refine AW.w 4 U1 Tru fun K J0=>?_
 refine AW.cond rfl (fun h35=>?_) (fun h35=>?_)
 ·have q2:32<s.nt:=by have:=of_decide_eq_true h35;omega
  rw [show Jg1 s=(23,32) from by unfold Jg1;rw [if_neg hA,if_neg h1,if_neg f1,if_pos q2]] at hQ
  exact AW.f U1 Tru
 have h2:¬32<s.nt:=by have:=of_decide_eq_false h35;omega
 refine AW.w 5 U1 Tru fun K J0=>?_
 refine AW.loopK [1] (fun i=>i<=s.nt/\∀ k,k<i->TrS s k) (fun i=>[(5,.one (.int .i64 (i:Int)))]) (fun i=>[]) (fun i=>s.nt - i) 0 ⟨by omega,fun k hk=>by omega⟩ ?_ ?_ fun i hi9=>?_
 · first|rfl|(simp only [KS,simprocAttr,Int.natCast_zero]<;>repeat' (first|rfl|apply And.intro))
 · first|rfl|(simp only [Ja4,push_cast,simprocAttr,U1,Int.natCast_zero]<;>rfl)
 obtain ⟨hin,hok⟩:=hi9
 try simp only [Jb3,Ja4,push_cast,simprocAttr,U1]
 refine AW.w 2 U1 Tru fun K J1=>?_
 refine AW.cond rfl (fun h40=>?_) (fun h40=>?_)
 ·have hlt:i<s.nt:=by have:=of_decide_eq_true h40;omega
  have c1:(0:Int)<=(i:Int):=by omega
  have c2:(i:Int)<(s.nt:Int):=by omega
  have c3:i*2+2<=s.nt*2:=by omega
  have ga:=Jb5 (w:=2) (F:=tC s R) (fun _=>rfl) hlt
  obtain ⟨kk,ek,hky⟩:=hR.hk i hlt
  have lky:=Ja8 hky
  refine AW.w 4 Tru Tru fun K J1=>?_
  have U3:=ca4 U1 c1 c2 (ca3 c3 ga hbt)
  refine AW.c 1 U3 (Kn8 (s.tw i) (R.k i) (R.vk i) (s.kn i) (s.kt i) (s.kv i) _ ⟨kk,ek,Ja3 hky _⟩) ?_
  refine AW.cond rfl (fun h49=>?_) (fun h49=>?_)
  ·have hno:¬TrS s i:=by simpa [TrS] using h49
   have hfb:fbN (fun i=>decide (TrS s i)) s.nt=i:=Kj1 (fun k hk=>decide_eq_true (hok k hk)) (decide_eq_false hno) _ hlt
   rw [show Jg1 s=(23,((i:Nat):Int)) from by unfold Jg1;rw [if_neg hA,if_neg h1,if_neg f1,if_neg h2,if_pos (by rw [hfb];exact hlt),hfb]] at hQ
   exact AW.f U3 Tru
  have hnow:TrS s i:=by simpa [TrS] using h49
  refine AW.w 3 U3 Tru ?_
  have hwi:IntKind.i64.wrap ((i:Int)+1)=(i:Int)+1:=wi (by omega)
  refine ⟨i+1,⟨by omega,fun k hk=>by
    rcases Nat.lt_or_ge k i with h|h
    · exact hok k h
    obtain rfl:k=i:=by omega
    exact hnow⟩,by omega,?_⟩
  try simp only [Jb3,Ja4,push_cast,simprocAttr,U3,hwi]
  first
   | exact Weak.same (by simp only [KS,simprocAttr,hwi]) (by first|rfl|simp only [KS,simprocAttr,hwi])
   | exact Weak.to (extra:=[_]) (by simp only [KS,simprocAttr,hwi]) (by first|rfl|(simp only [List.append_assoc,List.cons_append,List.nil_append];rfl)) (by first|rfl|(simp [AV.below,CV.below];done)|(simp [AV.below,CV.below];omega)) (by
      first|exact hwf|refine MWf.app (hwf.grow (by simp)) ?_
      repeat (first|exact Jb1|(refine Ja0 ?_ ?_;· first|rfl|(simp [CV.below];done)|(simp [CV.below];omega))))
 have hie:i=s.nt:=by have:=of_decide_eq_false h40;omega
 have f2:¬fbN (fun i=>decide (TrS s i)) s.nt<s.nt:=by rw [Jx2 s.nt fun k hk=>decide_eq_true (hok k (by omega))];omega
 refine AW.w 4 U1 Tru fun K J0=>?_
 refine AW.cond rfl (fun h54=>?_) (fun h54=>?_)
 ·have q3:32<s.nj:=by have:=of_decide_eq_true h54;omega
  rw [show Jg1 s=(24,32) from by unfold Jg1;rw [if_neg hA,if_neg h1,if_neg f1,if_neg h2,if_neg f2,if_pos q3]] at hQ
  exact AW.f U1 Tru
 have h3:¬32<s.nj:=by have:=of_decide_eq_false h54;omega
 refine AW.w 5 U1 Tru fun K J0=>?_
 refine AW.loopK [1] (fun i=>i<=s.nj/\∀ k,k<i->JoR s k) (fun i=>[(6,.one (.int .i64 (i:Int)))]) (fun i=>[]) (fun i=>s.nj - i) 0 ⟨by omega,fun k hk=>by omega⟩ ?_ ?_ fun i hi14=>?_
 · first|rfl|(simp only [KS,simprocAttr,Int.natCast_zero]<;>repeat' (first|rfl|apply And.intro))
 · first|rfl|(simp only [Ja4,push_cast,simprocAttr,U1,Int.natCast_zero]<;>rfl)
 obtain ⟨hin,hok⟩:=hi14
 try simp only [Jb3,Ja4,push_cast,simprocAttr,U1]
 refine AW.w 2 U1 Tru fun K J1=>?_
 refine AW.cond rfl (fun h59=>?_) (fun h59=>?_)
 ·have hlt:i<s.nj:=by have:=of_decide_eq_true h59;omega
  have c1:(0:Int)<=(i:Int):=by omega
  have c2:(i:Int)<(s.nj:Int):=by omega
  have c3:=True.intro
  have ga:=True.intro
  refine AW.w 4 Tru Tru fun K J1=>?_
  refine AW.sr 1 fun K J2=>?_
  have U4:=ca4 U1 c1 c2 (ca2 c3 ga)
  simp only [push_cast,simprocAttr,U4]
  refine CThen.by (rjo_c s R i _ hR.nt (by obtain ⟨k,e,h⟩:=hR.hj;exact ⟨k,e,Ja3 h _⟩) hlt hR.nj) ?_
  simp only [push_cast,simprocAttr,U4]
  apply J2
  refine AW.cond rfl (fun h65=>?_) (fun h65=>?_)
  ·have hno:¬JoR s i:=by simpa [TrS] using h65
   have hfb:fbN (fun i=>decide (JoR s i)) s.nj=i:=Kj1 (fun k hk=>decide_eq_true (hok k hk)) (decide_eq_false hno) _ hlt
   rw [show Jg1 s=(24,((i:Nat):Int)) from by unfold Jg1;rw [if_neg hA,if_neg h1,if_neg f1,if_neg h2,if_neg f2,if_neg h3,if_pos (by rw [hfb];exact hlt),hfb]] at hQ
   exact AW.f U4 Tru
  have hnow:JoR s i:=by simpa [TrS] using h65
  refine AW.w 3 U4 Tru ?_
  have hwi:IntKind.i64.wrap ((i:Int)+1)=(i:Int)+1:=wi (by omega)
  refine ⟨i+1,⟨by omega,fun k hk=>by
    rcases Nat.lt_or_ge k i with h|h
    · exact hok k h
    obtain rfl:k=i:=by omega
    exact hnow⟩,by omega,?_⟩
  try simp only [Jb3,Ja4,push_cast,simprocAttr,U4,hwi]
  first
   | exact Weak.same (by simp only [KS,simprocAttr,hwi]) (by first|rfl|simp only [KS,simprocAttr,hwi])
   | exact Weak.to (extra:=[_]) (by simp only [KS,simprocAttr,hwi]) (by first|rfl|(simp only [List.append_assoc,List.cons_append,List.nil_append];rfl)) (by first|rfl|(simp [AV.below,CV.below];done)|(simp [AV.below,CV.below];omega)) (by
      first|exact hwf|refine MWf.app (hwf.grow (by simp)) ?_
      repeat (first|exact Jb1|(refine Ja0 ?_ ?_;· first|rfl|(simp [CV.below];done)|(simp [CV.below];omega))))
 have hie:i=s.nj:=by have:=of_decide_eq_false h59;omega
 have f3:¬fbN (fun i=>decide (JoR s i)) s.nj<s.nj:=by rw [Jx2 s.nj fun k hk=>decide_eq_true (hok k (by omega))];omega
 refine AW.w 4 U1 Tru fun K J0=>?_
 refine AW.cond rfl (fun h70=>?_) (fun h70=>?_)
 ·have q4:128<s.nx:=by have:=of_decide_eq_true h70;omega
  rw [show Jg1 s=(25,128) from by unfold Jg1;rw [if_neg hA,if_neg h1,if_neg f1,if_neg h2,if_neg f2,if_neg h3,if_neg f3,if_pos q4]] at hQ
  exact AW.f U1 Tru
 have h4:¬128<s.nx:=by have:=of_decide_eq_false h70;omega
 refine AW.w 5 U1 Tru fun K J0=>?_
 refine AW.loopK [1] (fun i=>i<=s.nx/\∀ k,k<i->ShR s k) (fun i=>[(7,.one (.int .i64 (i:Int)))]) (fun i=>[]) (fun i=>s.nx - i) 0 ⟨by omega,fun k hk=>by omega⟩ ?_ ?_ fun i hi19=>?_
 · first|rfl|(simp only [KS,simprocAttr,Int.natCast_zero]<;>repeat' (first|rfl|apply And.intro))
 · first|rfl|(simp only [Ja4,push_cast,simprocAttr,U1,Int.natCast_zero]<;>rfl)
 obtain ⟨hin,hok⟩:=hi19
 try simp only [Jb3,Ja4,push_cast,simprocAttr,U1]
 refine AW.w 2 U1 Tru fun K J1=>?_
 refine AW.cond rfl (fun h75=>?_) (fun h75=>?_)
 ·have hlt:i<s.nx:=by have:=of_decide_eq_true h75;omega
  have c1:(0:Int)<=(i:Int):=by omega
  have c2:(i:Int)<(s.nx:Int):=by omega
  have c3:i*13+13<=s.nx*13:=by omega
  have ga:=Jb5 (w:=13) (F:=xC s) (fun _=>rfl) hlt
  refine AW.w 4 Tru Tru fun K J1=>?_
  have U5:=ca4 U1 c1 c2 (ca3 c3 ga hbx)
  refine AW.d [.rd 0,.val,.rd 0,.val,.val,.rd 0,.ext,.val] fol U5 (rsh_c s R i _ hR.nj hR.np) ?_
  refine AW.cond rfl (fun h85=>?_) (fun h85=>?_)
  ·have hno:¬ShR s i:=by simpa [TrS] using h85
   have hfb:fbN (fun i=>decide (ShR s i)) s.nx=i:=Kj1 (fun k hk=>decide_eq_true (hok k hk)) (decide_eq_false hno) _ hlt
   rw [show Jg1 s=(25,((i:Nat):Int)) from by unfold Jg1;rw [if_neg hA,if_neg h1,if_neg f1,if_neg h2,if_neg f2,if_neg h3,if_neg f3,if_neg h4,if_pos (by rw [hfb];exact hlt),hfb]] at hQ
   exact AW.f U5 Tru
  have hnow:ShR s i:=by simpa [TrS] using h85
  refine AW.w 3 U5 Tru ?_
  have hwi:IntKind.i64.wrap ((i:Int)+1)=(i:Int)+1:=wi (by omega)
  refine ⟨i+1,⟨by omega,fun k hk=>by
    rcases Nat.lt_or_ge k i with h|h
    · exact hok k h
    obtain rfl:k=i:=by omega
    exact hnow⟩,by omega,?_⟩
  try simp only [Jb3,Ja4,push_cast,simprocAttr,U5,hwi]
  first
   | exact Weak.same (by simp only [KS,simprocAttr,hwi]) (by first|rfl|simp only [KS,simprocAttr,hwi])
   | exact Weak.to (extra:=[_]) (by simp only [KS,simprocAttr,hwi]) (by first|rfl|(simp only [List.append_assoc,List.cons_append,List.nil_append];rfl)) (by first|rfl|(simp [AV.below,CV.below];done)|(simp [AV.below,CV.below];omega)) (by
      first|exact hwf|refine MWf.app (hwf.grow (by simp)) ?_
      repeat (first|exact Jb1|(refine Ja0 ?_ ?_;· first|rfl|(simp [CV.below];done)|(simp [CV.below];omega))))
 have hie:i=s.nx:=by have:=of_decide_eq_false h75;omega
 have f4:¬fbN (fun i=>decide (ShR s i)) s.nx<s.nx:=by rw [Jx2 s.nx fun k hk=>decide_eq_true (hok k (by omega))];omega
 refine AW.w 4 U1 (rle_c s R _ hR.nt) fun K J0=>?_
 refine AW.cond rfl (fun h89=>?_) (fun h89=>?_)
 ·have hL:¬LeR s:=by simpa using h89
  rw [show Jg1 s=(26,0) from by unfold Jg1;rw [if_neg hA,if_neg h1,if_neg f1,if_neg h2,if_neg f2,if_neg h3,if_neg f3,if_neg h4,if_neg f4,if_pos hL]] at hQ
  exact AW.f U1 Tru
 have hL:¬¬LeR s:=by simpa using h89
 refine AW.w 5 U1 (rla_c s R _ (hR.app _)) fun K J0=>?_
 refine AW.cond rfl (fun h94=>?_) (fun h94=>?_)
 ·have hM:16<(Jj1 (glB s) s.nx).length:=by have:=of_decide_eq_true h94;omega
  have g16:=Qy7 _ 16 hM
  have c16:(16:Int)<((Jj1 (glB s) s.nx).length:Int):=by omega
  rw [show Jg1 s=(27,(Jj1 (glB s) s.nx).getD 16 0) from by unfold Jg1;rw [if_neg hA,if_neg h1,if_neg f1,if_neg h2,if_neg f2,if_neg h3,if_neg f3,if_neg h4,if_neg f4,if_neg hL,if_pos hM]] at hQ
  have U6:=ca4 U1 g16 c16 hM
  exact AW.fd [[.val,.val,.rd 0,.val,.val]] U6 Tru
 have hM:¬16<(Jj1 (glB s) s.nx).length:=by have:=of_decide_eq_false h94;omega
 rw [show Jg1 s=(0,0) from by unfold Jg1;rw [if_neg hA,if_neg h1,if_neg f1,if_neg h2,if_neg f2,if_neg h3,if_neg f3,if_neg h4,if_neg f4,if_neg hL,if_neg hM]] at hQ
 exact AW.f U1 Tru
def alV (f:Nat->Bool)(n:Nat):Int:=if fbN f n<n then ((fbN f n:Nat):Int) else -1
theorem Vr7 {f:Nat->Bool}{n i:Nat}(h:∀ k,k<i->f k=true)(hi:f i=false)(hn:i<n):alV f n=(i:Int):=by
 have:=Kj1 h hi n hn
 unfold alV;rw [if_pos (by omega),this]
theorem Vb2 {f:Nat->Bool}{n:Nat}(h:∀ k,k<n->f k=true):alV f n=-1:=by
 have:=Jx2 n h
 unfold alV;rw [if_neg (by omega)]
theorem Vb1 (n:Nat)(f:Nat->Bool)(m:Ja1)(hn:n<=1000000000000)(g r:Nat)(hc:∀ k:Nat,k<n->Ctr Tryz.prog g [.one (.int .i64 (k:Int)),.one (.ptr r 0 0)] m (.one (.bool (f k))) m):Ctr Tryz.prog 99 [.one (.int .i64 (n:Int)),.one (.fn g [(r,0,0)])] m (.one (.int .i64 (alV f n))) m:=by
 refine Ctr.en Tryz.func99 [.tmp 4] 16 fun hwf Q hQ=>?_
 refine AW.w 4 Tru Tru fun K J0=>?_
 refine AW.loopK [1,6] (fun i=>i<=n/\∀ k,k<i->f k=true) (fun i=>[(7,.one (.int .i64 (i:Int)))]) (fun i=>[]) (fun i=>n - i) 0 ⟨by omega,fun k hk=>by omega⟩ ?_ ?_ fun i hi2=>?_
 · first|rfl|(simp only [KS,simprocAttr,Int.natCast_zero]<;>repeat' (first|rfl|apply And.intro))
 · first|rfl|(simp only [Ja4,push_cast,simprocAttr,Int.natCast_zero]<;>rfl)
 obtain ⟨hin,hok⟩:=hi2
 try simp only [Jb3,Ja4,push_cast,simprocAttr]
 refine AW.w 2 Tru Tru fun K J1=>?_
 refine AW.cond rfl (fun h8=>?_) (fun h8=>?_)
 ·have hlt:i<n:=by have:=of_decide_eq_true h8;omega
  have c1:(0:Int)<=(i:Int):=by omega
  have c2:(i:Int)<(n:Int):=by omega
  refine AW.w 4 Tru Tru fun K J1=>?_
  have U1:=ca2 c1 c2
  refine AW.c 2 U1 (hc i hlt) ?_
  refine AW.cond rfl (fun h13=>?_) (fun h13=>?_)
  ·have hno:f i=false:=by simpa using h13
   rw [Vr7 hok hno hlt] at hQ
   exact AW.f U1 Tru
  have hnow:f i=true:=by simpa using h13
  refine AW.w 3 U1 Tru ?_
  have hwi:IntKind.i64.wrap ((i:Int)+1)=(i:Int)+1:=wi (by omega)
  exact Wk (i+1) U1 hwi (hI:=⟨by omega,fun k hk=>by
    rcases Nat.lt_or_ge k i with h|h
    · exact hok k h
    obtain rfl:k=i:=by omega
    exact hnow⟩)
 have hie:i=n:=by have:=of_decide_eq_false h8;omega
 rw [Vb2 fun k hk=>hok k (by omega)] at hQ
 exact AW.f Tru Tru
theorem Xo7 (n:Nat)(f:Nat->Bool)(m:Ja1)(hn:n<=1000000000000)(g:Nat)(cs:List SV)(hc:∀ k:Nat,k<n->Ctr Tryz.prog g [.agg (cs.map SV.cv),.one (.int .i64 (k:Int))] m (.one (.bool (f k))) m):Ctr Tryz.prog 99 [.one (.int .i64 (n:Int)),.one (.bm g cs)] m (.one (.int .i64 (alV f n))) m:=by
 refine Ctr.en Tryz.func99 [.tmp 4] 16 fun hwf Q hQ=>?_
 refine AW.w 4 Tru Tru fun K J0=>?_
 refine AW.loopK [1,6] (fun i=>i<=n/\∀ k,k<i->f k=true) (fun i=>[(7,.one (.int .i64 (i:Int)))]) (fun i=>[]) (fun i=>n - i) 0 ⟨by omega,fun k hk=>by omega⟩ ?_ ?_ fun i hi2=>?_
 · first|rfl|(simp only [KS,simprocAttr,Int.natCast_zero]<;>repeat' (first|rfl|apply And.intro))
 · first|rfl|(simp only [Ja4,push_cast,simprocAttr,Int.natCast_zero]<;>rfl)
 obtain ⟨hin,hok⟩:=hi2
 try simp only [Jb3,Ja4,push_cast,simprocAttr]
 refine AW.w 2 Tru Tru fun K J1=>?_
 refine AW.cond rfl (fun h8=>?_) (fun h8=>?_)
 ·have hlt:i<n:=by have:=of_decide_eq_true h8;omega
  have c1:(0:Int)<=(i:Int):=by omega
  have c2:(i:Int)<(n:Int):=by omega
  refine AW.w 4 Tru Tru fun K J1=>?_
  have U2:=ca2 c1 c2
  refine AW.c 2 U2 (hc i hlt) ?_
  refine AW.cond rfl (fun h13=>?_) (fun h13=>?_)
  ·have hno:f i=false:=by simpa using h13
   rw [Vr7 hok hno hlt] at hQ
   exact AW.f U2 Tru
  have hnow:f i=true:=by simpa using h13
  refine AW.w 3 U2 Tru ?_
  have hwi:IntKind.i64.wrap ((i:Int)+1)=(i:Int)+1:=wi (by omega)
  exact Wk (i+1) U2 hwi (hI:=⟨by omega,fun k hk=>by
    rcases Nat.lt_or_ge k i with h|h
    · exact hok k h
    obtain rfl:k=i:=by omega
    exact hnow⟩)
 have hie:i=n:=by have:=of_decide_eq_false h8;omega
 rw [Vb2 fun k hk=>hok k (by omega)] at hQ
 exact AW.f Tru Tru
theorem Xm4 (s:SC)(R:RWs)(b i:Nat)(m:Ja1)(hR:ScR 140 119 223 148 155 m s R)(hb:m[b]?=some ⟨.fix,52,0,0,scC s R⟩)(hi:i<s.np):Ctr Tryz.prog 92 [.one (.int .i64 (i:Int)),.one (.ptr b 0 0)] m (.one (.bool (decide (PaR s i)))) m:=by
 have lb:=Ja8 hb
 obtain ⟨kr,er,hr⟩:=hR.hp
 have lr:=Ja8 hr
 have hn:=hR.np
 have hb2:m[b]?=some ⟨.fix,52,0,0,[.int .i64 s.w,.int .i64 s.h,.int .i64 s.sm,.int .i64 s.dp,.int .i64 s.fr,.int .i64 s.sh,.int .u64 s.sd,.int .i64 (s.sk 0),.int .i64 (s.sk 1),.int .i64 (s.sk 2),.int .i64 s.ey,.int .i64 s.lk,.int .i64 s.wd,.sl R.p R.vp 0 s.np,.sl R.t R.vt 0 s.nt,.sl R.j R.vj 0 s.nj,.sl R.x R.vx 0 s.nx]⟩:=hb
 have rl:(Jb0 s.np (pC s)).length=s.np*5:=Ja5 (w:=5) (F:=pC s) (fun _=>rfl) _
 have hlt:i<s.np:=hi
 have c1:(0:Int)<=(i:Int):=by omega
 have c2:(i:Int)<(s.np:Int):=by omega
 have c3:i*5+5<=s.np*5:=by omega
 have ga:=Jb5 (w:=5) (F:=pC s) (fun _=>rfl) hlt
 have gp:=Kv5 s i
 have U3:=ca4 hb2 (Ja3 hb2) hr (ca4 (Ja3 hr) rl c1 (ca4 c2 c3 ga (ca2 hlt gp)))
 exact Ctr.f Tryz.func92 [.tmp 3] 10 U3 (cpa_c s i)
theorem Xm3 (s:SC)(R:RWs)(b i:Nat)(m:Ja1)(hR:ScR 140 119 223 148 155 m s R)(hb:m[b]?=some ⟨.fix,52,0,0,scC s R⟩)(hi:i<s.nt):Ctr Tryz.prog 94 [.one (.int .i64 (i:Int)),.one (.ptr b 0 0)] m (.one (.bool (decide (TrS s i)))) m:=by
 refine Ctr.en Tryz.func94 [.tmp 3] 10 fun hwf Q hQ=>?_
 have lb:=Ja8 hb
 obtain ⟨kr,er,hr⟩:=hR.ht
 have lr:=Ja8 hr
 have hn:=hR.nt
 have hb2:m[b]?=some ⟨.fix,52,0,0,[.int .i64 s.w,.int .i64 s.h,.int .i64 s.sm,.int .i64 s.dp,.int .i64 s.fr,.int .i64 s.sh,.int .u64 s.sd,.int .i64 (s.sk 0),.int .i64 (s.sk 1),.int .i64 (s.sk 2),.int .i64 s.ey,.int .i64 s.lk,.int .i64 s.wd,.sl R.p R.vp 0 s.np,.sl R.t R.vt 0 s.nt,.sl R.j R.vj 0 s.nj,.sl R.x R.vx 0 s.nx]⟩:=hb
 have rl:(Jb0 s.nt (tC s R)).length=s.nt*2:=Ja5 (w:=2) (F:=tC s R) (fun _=>rfl) _
 have hlt:i<s.nt:=hi
 have c1:(0:Int)<=(i:Int):=by omega
 have c2:(i:Int)<(s.nt:Int):=by omega
 have c3:i*2+2<=s.nt*2:=by omega
 have ga:=Jb5 (w:=2) (F:=tC s R) (fun _=>rfl) hlt
 obtain ⟨kk,ek,hky⟩:=hR.hk i hi
 have lky:=Ja8 hky
 have gp:=Vd6 s R i
 have gd:decide (TrS s i)=decide (TrR (s.tw i) (s.kn i) (s.kt i) (s.kv i)):=rfl
 rw [gd] at hQ
 have U4:=ca4 hb2 (Ja3 hb2) hr (ca4 (Ja3 hr) rl c1 (ca4 c2 c3 ga (ca2 hlt gp)))
 exact AW.f U4 (Kp2 (s.tw i) (R.k i) (R.vk i) (s.kn i) (s.kt i) (s.kv i) _ ⟨kk,ek,hky⟩)
theorem Xm2 (s:SC)(R:RWs)(b i:Nat)(m:Ja1)(hR:ScR 140 119 223 148 155 m s R)(hb:m[b]?=some ⟨.fix,52,0,0,scC s R⟩)(hi:i<s.nx):Ctr Tryz.prog 97 [.one (.int .i64 (i:Int)),.one (.ptr b 0 0)] m (.one (.bool (decide (ShR s i)))) m:=by
 have lb:=Ja8 hb
 obtain ⟨kr,er,hr⟩:=hR.hx
 have lr:=Ja8 hr
 have hn:=hR.nx
 have hb2:m[b]?=some ⟨.fix,52,0,0,[.int .i64 s.w,.int .i64 s.h,.int .i64 s.sm,.int .i64 s.dp,.int .i64 s.fr,.int .i64 s.sh,.int .u64 s.sd,.int .i64 (s.sk 0),.int .i64 (s.sk 1),.int .i64 (s.sk 2),.int .i64 s.ey,.int .i64 s.lk,.int .i64 s.wd,.sl R.p R.vp 0 s.np,.sl R.t R.vt 0 s.nt,.sl R.j R.vj 0 s.nj,.sl R.x R.vx 0 s.nx]⟩:=hb
 have rl:(Jb0 s.nx (xC s)).length=s.nx*13:=Ja5 (w:=13) (F:=xC s) (fun _=>rfl) _
 have hlt:i<s.nx:=hi
 have c1:(0:Int)<=(i:Int):=by omega
 have c2:(i:Int)<(s.nx:Int):=by omega
 have c3:i*13+13<=s.nx*13:=by omega
 have ga:=Jb5 (w:=13) (F:=xC s) (fun _=>rfl) hlt
 have gp:=Ka2 s i
 have U5:=ca4 hb2 (Ja3 hb2) hr (ca4 (Ja3 hr) rl c1 (ca4 c2 c3 ga (ca2 hlt gp)))
 exact Ctr.fd Tryz.func97 [.tmp 3] 11 [[.rd 0,.val,.rd 0,.val,.val,.rd 0,.ext,.val]] U5 (csh_c s R i _ hR.nj hR.np)
theorem Qh6 (s:SC)(R:RWs)(m:Ja1)(hR:ScR 140 119 223 148 155 m s R):Ctr Tryz.prog 35 [.agg (scC s R)] m (.tup [(false,[.int .i64 (Jg1 s).1]),(false,[.int .i64 (Jg1 s).2])]) m:=by
 refine Ctr.en Tryz.func35 [.tmp 2,.tmp 3] 71 fun hwf Q hQ=>?_
 obtain ⟨kp,ep,hp⟩:=hR.hp
 have lp:=Ja8 hp
 obtain ⟨kt,et,ht⟩:=hR.ht
 have lt:=Ja8 ht
 obtain ⟨kj,ej,hj⟩:=hR.hj
 have lj:=Ja8 hj
 obtain ⟨kx,ex,hx⟩:=hR.hx
 have lx:=Ja8 hx
 have np:=hR.np
 have nt:=hR.nt
 have nj:=hR.nj
 have nx:=hR.nx
 have pl:(Jb0 s.np (pC s)).length=s.np*5:=Ja5 (w:=5) (F:=pC s) (fun _=>rfl) _
 have tl:(Jb0 s.nt (tC s R)).length=s.nt*2:=Ja5 (w:=2) (F:=tC s R) (fun _=>rfl) _
 have jl:(Jb0 s.nj (jC s)).length=s.nj*4:=Ja5 (w:=4) (F:=jC s) (fun _=>rfl) _
 have xl:(Jb0 s.nx (xC s)).length=s.nx*13:=Ja5 (w:=13) (F:=xC s) (fun _=>rfl) _
 have hlt0:∀ k,¬m.length+k<m.length:=fun k=>by omega
 have hbox:∀ i,pC s i=[.int .i64 (s.pk i),.int .i64 (s.pc i 0),.int .i64 (s.pc i 1),.int .i64 (s.pc i 2),.int .i64 (s.pr i)]:=fun _=>rfl
 have hbt:∀ i,tC s R i=[.int .i64 (s.tw i),.sl (R.k i) (R.vk i) 0 (s.kn i)]:=fun _=>rfl
 have hbx:∀ i,xC s i=[.int .i64 (s.xj i),.int .i64 (s.xp i),.int .i64 (s.xk i),.int .i64 (s.xv i 0 0),.int .i64 (s.xv i 0 1),.int .i64 (s.xv i 0 2),.int .i64 (s.xv i 1 0),.int .i64 (s.xv i 1 1),.int .i64 (s.xv i 1 2),.int .i64 (s.xv i 2 0),.int .i64 (s.xv i 2 1),.int .i64 (s.xv i 2 2),.int .i64 (s.xr i)]:=fun _=>rfl
 have ill:=fun l=>Ki8 l
 have U1:=ca4 ill @Je1 @Jd8 (ca2 @Je0 @Ja6)
 refine AW.w 3 U1 (chd_c s) fun K J0=>?_
 refine AW.cond rfl (fun h10=>?_) (fun h10=>?_)
 ·have hA:¬HdR s:=by simpa using h10
  rw [show Jg1 s=(21,0) from by unfold Jg1;rw [if_pos hA]] at hQ
  exact AW.f U1 Tru
 have hA:¬¬HdR s:=by simpa using h10
 refine AW.w 5 U1 Tru fun K J0=>?_
 refine AW.r 5 ?_
 refine AW.w 8 U1 Tru fun K J1 K J2 K J3=>?_
 refine AW.cond rfl (fun h42=>?_) (fun h42=>?_)
 ·have q1:32<s.np:=by have:=of_decide_eq_true h42;omega
  rw [show Jg1 s=(22,32) from by unfold Jg1;rw [if_neg hA,if_pos q1]] at hQ
  exact AW.fd [[.val,.rd 0,.val,.rd 0,.val,.val]] U1 Tru
 have h1:¬32<s.np:=by have:=of_decide_eq_false h42;omega
 refine AW.w 2 Tru Tru ?_
 refine AW.sr 2 fun K J3=>?_
 simp only [push_cast,simprocAttr,U1]
 refine CThen.by (Vb1 s.np (fun i=>decide (PaR s i)) _ hR.np _ _ (fun k hk=>Xm4 s R m.length k _ (hR.app _) (by rw [Jj9];rfl) hk)) ?_
 simp only [push_cast,simprocAttr,U1]
 apply J3
 refine AW.cond rfl (fun h53=>?_) (fun h53=>?_)
 ·have hneg:=of_decide_eq_true h53
  have hlt:fbN (fun i=>decide (PaR s i)) s.np<s.np:=by
    rcases Nat.lt_or_ge (fbN (fun i=>decide (PaR s i)) s.np) s.np with h|h
    · exact h
    exfalso;unfold alV at hneg;rw [if_neg (by omega)] at hneg;omega
  have hal:alV (fun i=>decide (PaR s i)) s.np=((fbN (fun i=>decide (PaR s i)) s.np:Nat):Int):=by unfold alV;rw [if_pos hlt]
  rw [show Jg1 s=(22,alV (fun i=>decide (PaR s i)) s.np) from by unfold Jg1;rw [if_neg hA,if_neg h1,if_pos hlt,hal]] at hQ
  exact AW.f U1 Tru
 have hneg:=of_decide_eq_false h53
 have f1:¬fbN (fun i=>decide (PaR s i)) s.np<s.np:=fun h=>by
   unfold alV at hneg;rw [if_pos h] at hneg;omega
 refine AW.w 12 U1 Tru fun K J1 K J2 K J3=>?_
 refine AW.cond rfl (fun h42=>?_) (fun h42=>?_)
 ·have q2:32<s.nt:=by have:=of_decide_eq_true h42;omega
  rw [show Jg1 s=(23,32) from by unfold Jg1;rw [if_neg hA,if_neg h1,if_neg f1,if_pos q2]] at hQ
  exact AW.fd [[.val,.rd 0,.val,.rd 0,.val,.val]] U1 Tru
 have h2:¬32<s.nt:=by have:=of_decide_eq_false h42;omega
 refine AW.w 2 Tru Tru ?_
 refine AW.sr 2 fun K J3=>?_
 simp only [push_cast,simprocAttr,U1]
 refine CThen.by (Vb1 s.nt (fun i=>decide (TrS s i)) _ hR.nt _ _ (fun k hk=>Xm3 s R m.length k _ (hR.app _) (by rw [Jj9];rfl) hk)) ?_
 simp only [push_cast,simprocAttr,U1]
 apply J3
 refine AW.cond rfl (fun h53=>?_) (fun h53=>?_)
 ·have hneg:=of_decide_eq_true h53
  have hlt:fbN (fun i=>decide (TrS s i)) s.nt<s.nt:=by
    rcases Nat.lt_or_ge (fbN (fun i=>decide (TrS s i)) s.nt) s.nt with h|h
    · exact h
    exfalso;unfold alV at hneg;rw [if_neg (by omega)] at hneg;omega
  have hal:alV (fun i=>decide (TrS s i)) s.nt=((fbN (fun i=>decide (TrS s i)) s.nt:Nat):Int):=by unfold alV;rw [if_pos hlt]
  rw [show Jg1 s=(23,alV (fun i=>decide (TrS s i)) s.nt) from by unfold Jg1;rw [if_neg hA,if_neg h1,if_neg f1,if_neg h2,if_pos hlt,hal]] at hQ
  exact AW.f U1 Tru
 have hneg:=of_decide_eq_false h53
 have f2:¬fbN (fun i=>decide (TrS s i)) s.nt<s.nt:=fun h=>by
   unfold alV at hneg;rw [if_pos h] at hneg;omega
 refine AW.w 12 U1 Tru fun K J1 K J2 K J3=>?_
 refine AW.cond rfl (fun h42=>?_) (fun h42=>?_)
 ·have q3:32<s.nj:=by have:=of_decide_eq_true h42;omega
  rw [show Jg1 s=(24,32) from by unfold Jg1;rw [if_neg hA,if_neg h1,if_neg f1,if_neg h2,if_neg f2,if_pos q3]] at hQ
  exact AW.fd [[.val,.rd 0,.val,.rd 0,.val,.val]] U1 Tru
 have h3:¬32<s.nj:=by have:=of_decide_eq_false h42;omega
 refine AW.w 2 Tru Tru ?_
 refine AW.sr 2 fun K J3=>?_
 simp only [push_cast,simprocAttr,U1]
 refine CThen.by (Xo7 s.nj (fun i=>decide (JoR s i)) _ hR.nj _ _ (fun k hk=>cjo_c s R k _ hR.nt (by obtain ⟨k,e,h⟩:=hR.hj;exact ⟨k,e,Ja3 h _⟩) hk hR.nj)) ?_
 simp only [push_cast,simprocAttr,U1]
 apply J3
 refine AW.cond rfl (fun h53=>?_) (fun h53=>?_)
 ·have hneg:=of_decide_eq_true h53
  have hlt:fbN (fun i=>decide (JoR s i)) s.nj<s.nj:=by
    rcases Nat.lt_or_ge (fbN (fun i=>decide (JoR s i)) s.nj) s.nj with h|h
    · exact h
    exfalso;unfold alV at hneg;rw [if_neg (by omega)] at hneg;omega
  have hal:alV (fun i=>decide (JoR s i)) s.nj=((fbN (fun i=>decide (JoR s i)) s.nj:Nat):Int):=by unfold alV;rw [if_pos hlt]
  rw [show Jg1 s=(24,alV (fun i=>decide (JoR s i)) s.nj) from by unfold Jg1;rw [if_neg hA,if_neg h1,if_neg f1,if_neg h2,if_neg f2,if_neg h3,if_pos hlt,hal]] at hQ
  exact AW.f U1 Tru
 have hneg:=of_decide_eq_false h53
 have f3:¬fbN (fun i=>decide (JoR s i)) s.nj<s.nj:=fun h=>by
   unfold alV at hneg;rw [if_pos h] at hneg;omega
 refine AW.w 12 U1 Tru fun K J1 K J2 K J3=>?_
 refine AW.cond rfl (fun h42=>?_) (fun h42=>?_)
 ·have q4:128<s.nx:=by have:=of_decide_eq_true h42;omega
  rw [show Jg1 s=(25,128) from by unfold Jg1;rw [if_neg hA,if_neg h1,if_neg f1,if_neg h2,if_neg f2,if_neg h3,if_neg f3,if_pos q4]] at hQ
  exact AW.fd [[.val,.rd 0,.val,.rd 0,.val,.val]] U1 Tru
 have h4:¬128<s.nx:=by have:=of_decide_eq_false h42;omega
 refine AW.w 2 Tru Tru ?_
 refine AW.sr 2 fun K J3=>?_
 simp only [push_cast,simprocAttr,U1]
 refine CThen.by (Vb1 s.nx (fun i=>decide (ShR s i)) _ hR.nx _ _ (fun k hk=>Xm2 s R m.length k _ (hR.app _) (by rw [Jj9];rfl) hk)) ?_
 simp only [push_cast,simprocAttr,U1]
 apply J3
 refine AW.cond rfl (fun h53=>?_) (fun h53=>?_)
 ·have hneg:=of_decide_eq_true h53
  have hlt:fbN (fun i=>decide (ShR s i)) s.nx<s.nx:=by
    rcases Nat.lt_or_ge (fbN (fun i=>decide (ShR s i)) s.nx) s.nx with h|h
    · exact h
    exfalso;unfold alV at hneg;rw [if_neg (by omega)] at hneg;omega
  have hal:alV (fun i=>decide (ShR s i)) s.nx=((fbN (fun i=>decide (ShR s i)) s.nx:Nat):Int):=by unfold alV;rw [if_pos hlt]
  rw [show Jg1 s=(25,alV (fun i=>decide (ShR s i)) s.nx) from by unfold Jg1;rw [if_neg hA,if_neg h1,if_neg f1,if_neg h2,if_neg f2,if_neg h3,if_neg f3,if_neg h4,if_pos hlt,hal]] at hQ
  exact AW.f U1 Tru
 have hneg:=of_decide_eq_false h53
 have f4:¬fbN (fun i=>decide (ShR s i)) s.nx<s.nx:=fun h=>by
   unfold alV at hneg;rw [if_pos h] at hneg;omega
 refine AW.w 13 U1 (cle_c s R _ hR.nt) fun K J1 K J2 K J0=>?_
 refine AW.cond rfl (fun h58=>?_) (fun h58=>?_)
 ·have hL:¬LeR s:=by simpa using h58
  rw [show Jg1 s=(26,0) from by unfold Jg1;rw [if_neg hA,if_neg h1,if_neg f1,if_neg h2,if_neg f2,if_neg h3,if_neg f3,if_neg h4,if_neg f4,if_pos hL]] at hQ
  exact AW.f U1 Tru
 have hL:¬¬LeR s:=by simpa using h58
 refine AW.c 1 U1 (Vm7 s R _ (hR.app _)) ?_
 refine AW.cond rfl (fun h62=>?_) (fun h62=>?_)
 ·have hM:16<(Jj1 (glB s) s.nx).length:=by have:=of_decide_eq_true h62;omega
  have g16:=Qy7 _ 16 hM
  have c16:(16:Int)<((Jj1 (glB s) s.nx).length:Int):=by omega
  rw [show Jg1 s=(27,(Jj1 (glB s) s.nx).getD 16 0) from by unfold Jg1;rw [if_neg hA,if_neg h1,if_neg f1,if_neg h2,if_neg f2,if_neg h3,if_neg f3,if_neg h4,if_neg f4,if_neg hL,if_pos hM]] at hQ
  have U2:=ca4 U1 g16 c16 hM
  exact AW.fd [[.rd 0,.ext,.val,.rd 1,.val,.val]] U2 (Vm7 s R _ (hR.app _))
 have hM:¬16<(Jj1 (glB s) s.nx).length:=by have:=of_decide_eq_false h62;omega
 rw [show Jg1 s=(0,0) from by unfold Jg1;rw [if_neg hA,if_neg h1,if_neg f1,if_neg h2,if_neg f2,if_neg h3,if_neg f3,if_neg h4,if_neg f4,if_neg hL,if_neg hM]] at hQ
 exact AW.f U1 Tru
theorem Qc1 (f:Nat->Int)(m:Ja1):Ctr Tryz.prog 44 [.agg (c3C f)] m (.agg (c3C f)) m:=by
 exact Ctr.f Tryz.func44 [.cell 2 59] 10 @Ja6 Tru
theorem Vo6 (f:Nat->Int)(m:Ja1):Ctr Tryz.prog 42 [.agg (c3C f)] m (.agg (c3C f)) m:=by
 exact Ctr.f Tryz.func42 [.cell 2 42] 10 @Ja6 Tru
theorem Vi3 (T:Nat->Int)(V:Nat->Nat->Int)(n:Nat):(Jb0 n (keC T V)).all CV.isVal=true:=Jb4 _ (fun _=>rfl) n
theorem Ki6 (T:Nat->Int)(V:Nat->Nat->Int)(L n:Nat):(Jb0 n (keC T V)).all (CV.below L)=true:=Jb4 _ (fun _=>rfl) n
theorem Xi9 (r v n:Nat)(T:Nat->Int)(V:Nat->Nat->Int)(m:Ja1)(hr:∃ k e,m[r]?=some ⟨k,285,v,e,Jb0 n (keC T V)⟩)(hn:n<=1000000000000):Ctr Tryz.prog 111 [.one (.sl r v 0 n)] m (.one (.sl m.length 0 0 n)) (m++[⟨.grow,223,0,4,Jb0 n (keC T V)⟩]):=by
 refine Ctr.en Tryz.func111 [.tmp 2] 23 fun hwf Q hQ=>?_
 obtain ⟨kk,ek,hr⟩:=hr
 have lr:=Ja8 hr
 have gl:(Jb0 n (keC T V)).length=n*4:=Ja5 (w:=4) (F:=keC T V) (fun _=>rfl) n
 have hlt0:∀ k,¬m.length+k<m.length:=fun k=>by omega
 have U1:=ca4 hr (Ja3 hr) gl @Vi3
 refine AW.w 5 U1 Tru fun K J0=>?_
 refine AW.nilTm 223 4 3 rfl ?_
 try simp only [push_cast,simprocAttr,U1]
 refine AW.loopK [6,7] (fun i=>i<=n) (fun i=>[(3,.one (.sl m.length i 0 i)),(8,.one (.int .i64 (i:Int)))]) (fun i=>[(m.length,⟨.grow,223,i,4,Jb0 i (keC T V)⟩)]) (fun i=>n - i) 0 (by omega) ?_ ?_ fun i hi2=>?_
 · first|rfl|(simp only [KS,simprocAttr,Jb0,Int.natCast_zero]<;>repeat' (first|rfl|apply And.intro))
 · simp only [Ja4,push_cast,simprocAttr,Jb0]<;>rfl
 try simp only [Jb3,Ja4,push_cast,simprocAttr,U1]
 refine AW.w 2 U1 Tru fun K J1=>?_
 refine AW.cond rfl (fun h9=>?_) (fun h9=>?_)
 ·have hlt:i<n:=by have:=of_decide_eq_true h9;omega
  have c1:(0:Int)<=(i:Int):=by omega
  have c2:(i:Int)<(n:Int):=by omega
  have c3:i*4+4<=n*4:=by omega
  have ga:=Jb5 (w:=4) (F:=keC T V) (fun _=>rfl) hlt
  have gk:=Jo8 T V i
  have gv:c3C (V i)=[.int .i64 (V i 0),.int .i64 (V i 1),.int .i64 (V i 2)]:=rfl
  have gli:(Jb0 i (keC T V)).length=i*4:=Ja5 (w:=4) (F:=keC T V) (fun _=>rfl) i
  have q1:i<=140737488355327:=by omega
  have q2:(i+1)*32<=140737488355328:=by omega
  have hap:Jb0 i (keC T V)++[.int .i64 (T i),.int .i64 (V i 0),.int .i64 (V i 1),.int .i64 (V i 2)]=Jb0 (i+1) (keC T V):=rfl
  refine AW.w 4 Tru Tru fun K J1=>?_
  have U2:=ca4 U1 c1 c2 (ca4 c3 ga gk (ca4 gli q1 q2 hlt))
  refine AW.c 1 U2 Tru ?_
  have q_1:=fun M=>Qc1 (V i) M
  rw [gv] at q_1
  refine AW.wd [[.val,.val,.rd 0,.val,.rd 0,.ext,.val,.ext,.wr,.val]] 3 U2 q_1 ?_
  have hwi:IntKind.i64.wrap ((i:Int)+1)=(i:Int)+1:=wi (by omega)
  refine ⟨i+1,by omega,by omega,?_⟩
  try simp only [Jb3,Ja4,push_cast,simprocAttr,U2,hwi,hap]
  exact Weak.to (extra:=[_,_]) (by simp only [KS,simprocAttr,hwi,hap]) (by first|rfl|(simp only [List.append_assoc,List.cons_append,List.nil_append];rfl)) (by first|rfl|(simp [AV.below,CV.below];done)|(simp [AV.below,CV.below];omega)) (by first|exact hwf|exact MWf.app (hwf.grow (by simp)) (Ja0 (Ki6 _ _ _ _) Jb1))
 have hin:i=n:=by have:=of_decide_eq_false h9;omega
 rw [hin]
 refine AW.w 4 U1 Tru ?_
 refine hQ _ _ _ ?_
 refine RetP.pick [(m.length,n)] (by first|exact Or.inr rfl|exact Or.inl rfl) ?_ ?_ ?_ hwf ?_
 · simp only [Jd3,Ja9,Jb6,AV.tv,push_cast,simprocAttr]
   simp [Km6,Kq7,Kb1,Js3,Jh0,hlt0]
 · simp only [Jm9,push_cast,simprocAttr]
 · simp [Jc4]
 exact Ja0 (Ki6 _ _ _ _) Jb1
theorem Xe2 (w:Int)(r v n:Nat)(T:Nat->Int)(V:Nat->Nat->Int)(m:Ja1)(hr:∃ k e,m[r]?=some ⟨k,285,v,e,Jb0 n (keC T V)⟩)(hn:n<=1000000000000):Ctr Tryz.prog 43 [.agg [.int .i64 w,.sl r v 0 n]] m (.agg [.int .i64 w,.sl m.length 0 0 n]) (m++[⟨.grow,223,0,4,Jb0 n (keC T V)⟩]):=by
 refine Ctr.en Tryz.func43 [.cell 2 119] 9 fun hwf Q hQ=>?_
 obtain ⟨kk,ek,hr⟩:=hr
 have lr:=Ja8 hr
 have gl:(Jb0 n (keC T V)).length=n*4:=Ja5 (w:=4) (F:=keC T V) (fun _=>rfl) n
 have hlt0:∀ k,¬m.length+k<m.length:=fun k=>by omega
 have U3:=ca3 hr (Ja3 hr) gl
 refine AW.wd [[.val,.rd 0,.val,.rd 0,.ext,.val,.wr]] 3 U3 (Xi9 r v n T V _ ⟨kk,ek,Ja3 hr _⟩ hn) ?_
 refine hQ _ _ _ ?_
 refine RetP.pick [(m.length+2,0)] (by first|exact Or.inr rfl|exact Or.inl rfl) ?_ ?_ ?_ hwf ?_
 · simp only [Jd3,Ja9,Jb6,AV.tv,push_cast,simprocAttr]
   simp [Km6,Kq7,Kb1,Js3,Jh0,hlt0]
 · simp only [Jm9,push_cast,simprocAttr]
 · simp [Jc4]
 exact Ja0 (Ki6 _ _ _ _) Jb1
def SmR (s:SC):Prop:=(∀ i,i<s.nt->s.kn i<=40)/\s.np<=60/\s.nt<=60/\s.nj<=60/\s.nx<=200
instance (s:SC):Decidable (SmR s):=by unfold SmR;exact inferInstance
theorem Qj9 (s:SC)(R:RWs)(m:Ja1)(hR:ScR 138 143 285 146 150 m s R):Ctr Tryz.prog 17 [.agg (scC s R)] m (.one (.bool (decide (SmR s)))) m:=by
 refine Ctr.en Tryz.func17 [.tmp 2] 39 fun hwf Q hQ=>?_
 obtain ⟨kp,ep,hp⟩:=hR.hp
 have lp:=Ja8 hp
 obtain ⟨kt,et,ht⟩:=hR.ht
 have lt:=Ja8 ht
 obtain ⟨kj,ej,hj⟩:=hR.hj
 have lj:=Ja8 hj
 obtain ⟨kx,ex,hx⟩:=hR.hx
 have lx:=Ja8 hx
 have np:=hR.np
 have nt:=hR.nt
 have nj:=hR.nj
 have nx:=hR.nx
 have pl:(Jb0 s.np (pC s)).length=s.np*5:=Ja5 (w:=5) (F:=pC s) (fun _=>rfl) _
 have tl:(Jb0 s.nt (tC s R)).length=s.nt*2:=Ja5 (w:=2) (F:=tC s R) (fun _=>rfl) _
 have jl:(Jb0 s.nj (jC s)).length=s.nj*4:=Ja5 (w:=4) (F:=jC s) (fun _=>rfl) _
 have xl:(Jb0 s.nx (xC s)).length=s.nx*13:=Ja5 (w:=13) (F:=xC s) (fun _=>rfl) _
 have hlt0:∀ k,¬m.length+k<m.length:=fun k=>by omega
 have hbox:∀ i,pC s i=[.int .i64 (s.pk i),.int .i64 (s.pc i 0),.int .i64 (s.pc i 1),.int .i64 (s.pc i 2),.int .i64 (s.pr i)]:=fun _=>rfl
 have hbt:∀ i,tC s R i=[.int .i64 (s.tw i),.sl (R.k i) (R.vk i) 0 (s.kn i)]:=fun _=>rfl
 have hbx:∀ i,xC s i=[.int .i64 (s.xj i),.int .i64 (s.xp i),.int .i64 (s.xk i),.int .i64 (s.xv i 0 0),.int .i64 (s.xv i 0 1),.int .i64 (s.xv i 0 2),.int .i64 (s.xv i 1 0),.int .i64 (s.xv i 1 1),.int .i64 (s.xv i 1 2),.int .i64 (s.xv i 2 0),.int .i64 (s.xv i 2 1),.int .i64 (s.xv i 2 2),.int .i64 (s.xr i)]:=fun _=>rfl
 have ill:=fun l=>Ki8 l
 have U4:=ca4 hp (Ja3 hp) ht (ca4 (Ja3 ht) hj (Ja3 hj) (ca4 hx (Ja3 hx) pl (ca4 tl jl xl (ca4 ill @Je1 @Jd8 (ca2 @Je0 @Ja6)))))
 refine AW.w 4 U4 Tru fun K J0=>?_
 refine AW.loopK [1,6,7] (fun i=>i<=s.nt/\∀ k,k<i->s.kn k<=40) (fun i=>[(8,.one (.int .i64 (i:Int)))]) (fun i=>[]) (fun i=>s.nt - i) 0 ⟨by omega,fun k hk=>by omega⟩ ?_ ?_ fun i hi2=>?_
 · first|rfl|(simp only [KS,simprocAttr,Int.natCast_zero]<;>repeat' (first|rfl|apply And.intro))
 · first|rfl|(simp only [Ja4,push_cast,simprocAttr,U4,Int.natCast_zero]<;>rfl)
 obtain ⟨hin,hok0⟩:=hi2
 have hok:=hok0
 try simp only [Jb3,Ja4,push_cast,simprocAttr,U4]
 refine AW.w 2 U4 Tru fun K J1=>?_
 refine AW.cond rfl (fun h9=>?_) (fun h9=>?_)
 ·have hlt:i<s.nt:=by have:=of_decide_eq_true h9;omega
  have c1:(0:Int)<=(i:Int):=by omega
  have c2:(i:Int)<(s.nt:Int):=by omega
  have c3:i*2+2<=s.nt*2:=by omega
  have ga:=Jb5 (w:=2) (F:=tC s R) (fun _=>rfl) hlt
  refine AW.w 4 Tru Tru fun K J1=>?_
  have U5:=ca4 U4 c1 c2 (ca3 c3 ga hbt)
  refine AW.c 2 U5 Tru ?_
  refine AW.cond rfl (fun h15=>?_) (fun h15=>?_)
  ·have h40:=of_decide_eq_true h15
   rw [show decide (SmR s)=false from decide_eq_false fun h=>by have:=h.1 i hlt;omega] at hQ
   exact AW.f U5 Tru
  have hnow:s.kn i<=40:=by have:=of_decide_eq_false h15;omega
  refine AW.w 3 U5 Tru ?_
  have hwi:IntKind.i64.wrap ((i:Int)+1)=(i:Int)+1:=wi (by omega)
  refine ⟨i+1,⟨by omega,fun k hk=>by
    rcases Nat.lt_or_ge k i with h|h
    · exact hok k h
    obtain rfl:k=i:=by omega
    exact hnow⟩,by omega,?_⟩
  try simp only [Jb3,Ja4,push_cast,simprocAttr,U5,hwi]
  first
   | exact Weak.same (by simp only [KS,simprocAttr,hwi]) (by first|rfl|simp only [KS,simprocAttr,hwi])
   | exact Weak.to (extra:=[_]) (by simp only [KS,simprocAttr,hwi]) (by first|rfl|(simp only [List.append_assoc,List.cons_append,List.nil_append];rfl)) (by first|rfl|(simp [AV.below,CV.below];done)|(simp [AV.below,CV.below];omega)) (by
      first|exact hwf|refine MWf.app (hwf.grow (by simp)) ?_
      repeat (first|exact Jb1|(refine Ja0 ?_ ?_;· first|rfl|(simp [CV.below];done)|(simp [CV.below];omega))))
 have hie:i=s.nt:=by have:=of_decide_eq_false h9;omega
 rw [hie] at hok
 refine AW.w 2 Tru Tru ?_
 refine AW.q fun K J0=>?_
 have hk:(¬(s.np:Int)<=60)\/((s.np:Int)<=60/\¬(s.nt:Int)<=60)\/((s.np:Int)<=60/\(s.nt:Int)<=60/\¬(s.nj:Int)<=60)\/((s.np:Int)<=60/\(s.nt:Int)<=60/\(s.nj:Int)<=60/\¬(s.nx:Int)<=200)\/((s.np:Int)<=60/\(s.nt:Int)<=60/\(s.nj:Int)<=60/\(s.nx:Int)<=200):=by omega
 rcases hk with g1|⟨g1,g2⟩|⟨g1,g2,g3⟩|⟨g1,g2,g3,g4⟩|⟨g1,g2,g3,g4⟩
 ·rw [show decide (SmR s)=false from decide_eq_false fun h=>by obtain ⟨_,z1,z2,z3,z4⟩:=h;omega] at hQ
  have U6:=ca2 U4 g1
  exact AW.f U6 Tru
 ·rw [show decide (SmR s)=false from decide_eq_false fun h=>by obtain ⟨_,z1,z2,z3,z4⟩:=h;omega] at hQ
  have U7:=ca3 U4 g1 g2
  exact AW.f U7 Tru
 ·rw [show decide (SmR s)=false from decide_eq_false fun h=>by obtain ⟨_,z1,z2,z3,z4⟩:=h;omega] at hQ
  have U8:=ca4 U4 g1 g2 g3
  exact AW.f U8 Tru
 ·rw [show decide (SmR s)=false from decide_eq_false fun h=>by obtain ⟨_,z1,z2,z3,z4⟩:=h;omega] at hQ
  have U9:=ca4 U4 g1 g2 (ca2 g3 g4)
  exact AW.f U9 Tru
 rw [show decide (SmR s)=true from decide_eq_true ⟨hok,by omega,by omega,by omega,by omega⟩] at hQ
 have U10:=ca4 U4 g1 g2 (ca2 g3 g4)
 exact AW.f U10 Tru
end Go.Proofs.YtaannomfigammaaGreat
