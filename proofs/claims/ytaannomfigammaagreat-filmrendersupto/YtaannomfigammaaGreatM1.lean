/- Walks and facts of this seat's program over abstract states, printed by programs of mine; no conditions but those that each theorem names. -/
import Derived.WalkKit
import Derived.LaidEqlPtr
import Derived.Maps.AppendAt
import Derived.Lib.UnsafeStr
import Derived.Lib.Builder
import Derived.Lib.ConvBytes
import Derived.Maps.RangeRun
set_option linter.unusedVariables false
set_option linter.unusedSimpArgs false
namespace Go.Eng
open Go
inductive SV where
 | int (k:IntKind) (n:Int)
 | sl (r ver off len:Nat)
 | nils
 deriving Inhabited,DecidableEq
inductive CV where
 | bool (b:Bool)
 | int (k:IntKind) (n:Int)
 | str (s:ByteArray)
 | ptr (r ver off:Nat)
 | nilp
 | sl (r ver off len:Nat)
 | view (r ver off len:Nat)
 | nils
 | fn (f:FuncId) (caps:List (Nat × Nat × Nat))
 | nilf
 | nili
 | und
 | junk
 | mp (r ver:Nat)
 | nilm
 | gp (g off:Nat)
 | ifj (t:TypeId)
 | bm (f:FuncId) (cs:List SV)
 deriving Inhabited
def SV.cv:SV->CV
 | .int k n=>.int k n
 | .sl r ver off len=>.sl r ver off len
 | .nils=>.nils
def svOf:CV->Option SV
 | .int k n=>some (.int k n)
 | .sl r ver off len=>some (.sl r ver off len)
 | .nils=>some .nils
 | _=>none
def svL:List CV->Option (List SV)
 | []=>some []
 | c::cs=>match svOf c,svL cs with
  | some s,some l=>some (s::l)
  | _,_=>none
inductive AV where
 | one (c:CV)
 | agg (cs:List CV)
 | tup (vs:List (Bool × List CV))
 deriving Inhabited
abbrev Env:=Nat->Nat->Option (Option Addr × Nat)
def All2 {α β:Type}(R:α->β->Prop):List α->List β->Prop
 | [],[]=>True
 | a::as,b::bs=>R a b/\All2 R as bs
 | _,_=>False
section
variable {α β:Type}{R R':α->β->Prop}
theorem All2.length:∀ {as:List α} {bs:List β},All2 R as bs->as.length=bs.length
 | [],[],_=>rfl
 | _::_,_::_,h=>by simp [All2.length h.2]
 | [],_::_,h=>h.elim
 | _::_,[],h=>h.elim
theorem All2.mono (hr:∀ a b,R a b->R' a b):∀ {as:List α} {bs:List β},All2 R as bs->All2 R' as bs
 | [],[],_=>trivial
 | _::_,_::_,h=>⟨hr _ _ h.1,All2.mono hr h.2⟩
 | [],_::_,h=>h.elim
 | _::_,[],h=>h.elim
theorem All2.get:∀ {as:List α} {bs:List β},All2 R as bs->∀ {i:Nat} {a:α},as[i]?=some a->∃ b,bs[i]?=some b/\R a b
 | [],[],_,i,a,h=>by simp at h
 | x::as,y::bs,h,0,a,ha=>by simp at ha;subst ha;exact ⟨y,by simp,h.1⟩
 | x::as,y::bs,h,i+1,a,ha=>by
  simp at ha
  obtain ⟨b,hb,hr⟩:=All2.get h.2 ha
  exact ⟨b,by simpa using hb,hr⟩
 | [],_::_,h,_,_,_=>h.elim
 | _::_,[],h,_,_,_=>h.elim
theorem All2.of_get:∀ {as:List α} {bs:List β},as.length=bs.length->(∀ (i:Nat) (a:α) (b:β),as[i]?=some a->bs[i]?=some b->R a b)->All2 R as bs
 | [],[],_,_=>trivial
 | x::as,y::bs,hl,h=>⟨h 0 x y rfl rfl,All2.of_get (by simpa using hl) (fun i a b ha hb=>h (i+1) a b (by simpa using ha) (by simpa using hb))⟩
 | [],_::_,hl,_=>by simp at hl
 | _::_,[],hl,_=>by simp at hl
theorem All2.append:∀ {as:List α} {bs:List β} {as':List α} {bs':List β},All2 R as bs->All2 R as' bs'->All2 R (as++as') (bs++bs')
 | [],[],_,_,_,h=>h
 | _::_,_::_,_,_,h,h'=>⟨h.1,All2.append h.2 h'⟩
 | [],_::_,_,_,h,_=>h.elim
 | _::_,[],_,_,h,_=>h.elim
theorem All2.set:∀ {as:List α} {bs:List β},All2 R as bs->∀ {i:Nat} {a:α} {b:β},R a b->All2 R (as.set i a) (bs.set i b)
 | [],[],_,_,_,_,_=>trivial
 | _::_,_::_,h,0,_,_,hr=>⟨hr,h.2⟩
 | _::_,_::_,h,i+1,_,_,hr=>⟨h.1,All2.set h.2 hr⟩
 | [],_::_,h,_,_,_,_=>h.elim
 | _::_,[],h,_,_,_,_=>h.elim
theorem All2.drop:∀ {as:List α} {bs:List β},All2 R as bs->∀ n,All2 R (as.drop n) (bs.drop n)
 | [],[],_,n=>by simp [All2]
 | _::_,_::_,h,0=>h
 | _::as,_::bs,h,n+1=>by simpa using All2.drop h.2 n
 | [],_::_,h,_=>h.elim
 | _::_,[],h,_=>h.elim
theorem All2.take:∀ {as:List α} {bs:List β},All2 R as bs->∀ n,All2 R (as.take n) (bs.take n)
 | [],[],_,n=>by simp [All2]
 | _::_,_::_,_,0=>trivial
 | _::as,_::bs,h,n+1=>⟨h.1,All2.take h.2 n⟩
 | [],_::_,h,_=>h.elim
 | _::_,[],h,_=>h.elim
end
def CapR (ρ:Env)(c:Nat × Nat × Nat)(x:Value):Prop:=∃ a k,ρ c.1 c.2.1=some (some a,k)/\x=.pointer (some (a.add c.2.2))
def SVR (ρ:Env):SV->Value->Prop
 | .int k n,v=>v=.int k n
 | .sl r ver off len,v=>∃ A c0 B c,ρ r ver=some (A,c0)/\v=.slice B len c/\len<=c/\(0<len->∃ a,A=some a/\B=some (a.add off))/\(off=0->B=A/\c=c0)
 | .nils,v=>v=.slice none 0 0
def VC (ρ:Env):CV->Value->Prop
 | .bool b,v=>v=.bool b
 | .int k n,v=>v=.int k n
 | .str s,v=>v=.string s
 | .ptr r ver off,v=>∃ a k,ρ r ver=some (some a,k)/\v=.pointer (some (a.add off))
 | .nilp,v=>v=.pointer none
 | .sl r ver off len,v=>∃ A c0 B c,ρ r ver=some (A,c0)/\v=.slice B len c/\len<=c/\(0<len->∃ a,A=some a/\B=some (a.add off))/\(off=0->B=A/\c=c0)
 | .view r ver off len,v=>∃ A c0 B c,ρ r ver=some (A,c0)/\v=.slice B len c/\len<=c/\(0<len->∃ a,A=some a/\B=some (a.add off))
 | .nils,v=>v=.slice none 0 0
 | .fn f caps,v=>∃ vs:Array Value,v=.func (.func f) #[] vs/\All2 (CapR ρ) caps vs.toList
 | .nilf,v=>v=.nilFunc
 | .nili,v=>v=.nilIface
 | .und,v=>v=undef
 | .junk,_=>True
 | .mp r ver,v=>∃ n k,ρ r ver=some (some ⟨n,0,none⟩,k)/\v=.map (some n)
 | .nilm,v=>v=.map none
 | .gp g off,v=>v=.pointer (some ((⟨g,0,none⟩:Addr).add off))
 | .ifj t,v=>∃ x,v=.iface t x
 | .bm f cs,v=>∃ vs:Array Value,v=.func (.func f) #[.agg vs] #[]/\All2 (SVR ρ) cs vs.toList
theorem SVR_cv {ρ:Env}:∀ {s:SV} {v:Value},SVR ρ s v↔VC ρ s.cv v
 | .int _ _,_=>Iff.rfl
 | .sl _ _ _ _,_=>Iff.rfl
 | .nils,_=>Iff.rfl
theorem Vi8 {ρ:Env}:∀ {cs:List SV} {vs:List Value},All2 (SVR ρ) cs vs->All2 (VC ρ) (cs.map SV.cv) vs
 | [],[],_=>trivial
 | _::_,_::_,h=>⟨SVR_cv.1 h.1,Vi8 h.2⟩
 | [],_::_,h=>h.elim
 | _::_,[],h=>h.elim
theorem Qx6 {ρ:Env}:∀ {cs:List CV} {l:List SV} {vs:List Value},svL cs=some l->All2 (VC ρ) cs vs->All2 (SVR ρ) l vs
 | [],l,[],h,_=>by simp [svL] at h;subst h;trivial
 | c::cs,l,v::vs,h,hv=>by
  unfold svL at h
  split at h
  ·rename_i s l' h1 h2
   injection h with h;subst h
   refine ⟨?_,Qx6 h2 hv.2⟩
   cases c<;>first|(simp only [svOf,reduceCtorEq] at h1;done)|(injection h1 with h1;subst h1;exact hv.1)
  ·cases h
 | [],_,_::_,_,h=>h.elim
 | _::_,_,[],_,h=>h.elim
def Env.le (ρ ρ':Env):Prop:=∀ r v x,ρ r v=some x->ρ' r v=some x
theorem Env.le_refl (ρ:Env):ρ.le ρ:=fun _ _ _ h=>h
theorem CapR.mono {ρ ρ':Env}(h:ρ.le ρ'){c:Nat × Nat × Nat}{x:Value}:CapR ρ c x->CapR ρ' c x:=fun ⟨a,k,h1,h2⟩=>⟨a,k,h _ _ _ h1,h2⟩
theorem SVR.mono {ρ ρ':Env}(h:ρ.le ρ'):∀ {s:SV} {v:Value},SVR ρ s v->SVR ρ' s v
 | .int _ _,_,hv=>hv
 | .sl _ _ _ _,_,⟨A,c0,B,c,h1,h2⟩=>⟨A,c0,B,c,h _ _ _ h1,h2⟩
 | .nils,_,hv=>hv
theorem VC.mono {ρ ρ':Env}(h:ρ.le ρ'):∀ {c:CV} {v:Value},VC ρ c v->VC ρ' c v
 | .bool _,_,hv=>hv
 | .int _ _,_,hv=>hv
 | .str _,_,hv=>hv
 | .ptr _ _ _,_,⟨a,k,h1,h2⟩=>⟨a,k,h _ _ _ h1,h2⟩
 | .nilp,_,hv=>hv
 | .sl _ _ _ _,_,⟨A,c0,B,c,h1,h2⟩=>⟨A,c0,B,c,h _ _ _ h1,h2⟩
 | .view _ _ _ _,_,⟨A,c0,B,c,h1,h2⟩=>⟨A,c0,B,c,h _ _ _ h1,h2⟩
 | .nils,_,hv=>hv
 | .fn _ _,_,⟨vs,h1,h2⟩=>⟨vs,h1,h2.mono fun _ _=>CapR.mono h⟩
 | .nilf,_,hv=>hv
 | .nili,_,hv=>hv
 | .und,_,hv=>hv
 | .junk,_,_=>trivial
 | .mp _ _,_,⟨n,k,h1,h2⟩=>⟨n,k,h _ _ _ h1,h2⟩
 | .nilm,_,hv=>hv
 | .gp _ _,_,hv=>hv
 | .ifj _,_,hv=>hv
 | .bm _ _,_,⟨vs,h1,h2⟩=>⟨vs,h1,h2.mono fun _ _=>SVR.mono h⟩
def TV (ρ:Env)(t:Bool × List CV)(v:Value):Prop :=
 match t with
 | (true,cs)=>∃ vs:Array Value,v=.agg vs/\All2 (VC ρ) cs vs.toList
 | (false,[c])=>VC ρ c v
 | (false,_)=>True
def VR (ρ:Env):AV->Value->Prop
 | .one c,v=>VC ρ c v
 | .agg cs,v=>∃ vs:Array Value,v=.agg vs/\All2 (VC ρ) cs vs.toList
 | .tup ts,v=>∃ vs:Array Value,v=.tuple vs/\All2 (TV ρ) ts vs.toList
theorem TV.mono {ρ ρ':Env}(h:ρ.le ρ'){t:Bool × List CV}{v:Value}(hv:TV ρ t v):TV ρ' t v:=by
 obtain ⟨b,cs⟩:=t
 cases b with
 | true=>obtain ⟨vs,h1,h2⟩:=hv;exact ⟨vs,h1,h2.mono fun _ _=>VC.mono h⟩
 | false =>
  match cs,hv with
  | [],_=>trivial
  | [c],hv=>exact VC.mono h hv
  | _::_::_,_=>trivial
theorem VR.mono {ρ ρ':Env}(h:ρ.le ρ'){x:AV}{v:Value}(hv:VR ρ x v):VR ρ' x v:=by
 cases x with
 | one c=>exact VC.mono h hv
 | agg cs=>obtain ⟨vs,h1,h2⟩:=hv;exact ⟨vs,h1,h2.mono fun _ _=>VC.mono h⟩
 | tup ts=>obtain ⟨vs,h1,h2⟩:=hv;exact ⟨vs,h1,h2.mono fun _ _=>TV.mono h⟩
inductive BK where
 | fix
 | grow
 | ro
 | map (ka va:Bool) (clock:Nat) (es:List (Nat × List CV × List CV))
 | iter (rm since:Nat) (seen:List Nat) (last:Nat)
def BK.tag:BK->Nat
 | .fix=>0
 | .grow=>1
 | .ro=>2
 | .map _ _ _ _=>3
 | .iter _ _ _ _=>4
theorem BK.tag_ro {k:BK}:k.tag=2↔k=.ro:=by cases k<;>simp [BK.tag]
theorem BK.tag_eq_ro {k k':BK}(h:k'.tag=k.tag):k'=.ro↔k=.ro:=by rw [<-BK.tag_ro,<-BK.tag_ro,h]
structure Blk where
 kind:BK
 ty:TypeId
 ver:Nat
 esz:Nat
 cells:List CV
abbrev Ja1:=List Blk
abbrev Tm:=List (Nat × AV)
def Tm.get:List (Nat × AV)->Nat->AV
 | [],_=>.one .junk
 | (j,v)::r,i=>if i=j then v else Tm.get r i
def fzOf (esz n:Nat):Nat × Nat:=if esz=0 then (n,n+1) else (0,0)
def Jt7 (esz:Nat):Nat:=if esz=0 then 1 else esz
theorem Vt3 {esz:Nat}(h:esz≠0)(n:Nat):fzOf esz n=(0,0):=if_neg h
def RowAt (w:World)(n:Nat)(c:Array Value)(ty:TypeId)(esz:Nat):Prop:=∃ fz,(fz=(0,0)\/fz=fzOf esz c.size)/\w.heap[n]?=some (.cells c ty fz)
theorem RowAt.plain {w:World}{n:Nat}{c:Array Value}{ty:TypeId}{esz:Nat}(h:w.heap[n]?=some (.cells c ty (0,0))):RowAt w n c ty esz:=⟨_,.inl rfl,h⟩
theorem RowAt.pos {w:World}{n:Nat}{c:Array Value}{ty:TypeId}{esz:Nat}(h:RowAt w n c ty esz)(he:esz≠0):w.heap[n]?=some (.cells c ty (0,0)):=by
 obtain ⟨fz,h1,h2⟩:=h
 rw [Vt3 he] at h1
 rcases h1 with rfl|rfl<;>exact h2
theorem RowAt.lt {w:World}{n:Nat}{c:Array Value}{ty:TypeId}{esz:Nat}(h:RowAt w n c ty esz):n<w.heap.size:=by
 obtain ⟨fz,h1,h2⟩:=h
 exact (Array.getElem?_eq_some_iff.1 h2).1
theorem RowAt.trans {w w':World}{n:Nat}{c:Array Value}{ty:TypeId}{esz:Nat}(h:RowAt w n c ty esz)(e:w'.heap[n]?=w.heap[n]?):RowAt w' n c ty esz:=by
 obtain ⟨fz,h1,h2⟩:=h
 exact ⟨fz,h1,e.trans h2⟩
theorem Jt6 {esz:Nat}(h:esz≠0):Jt7 esz=esz:=if_neg h
def Vk2 (ρ:Env)(ka va:Bool)(x:Nat × List CV × List CV)(e:MapEntry):Prop :=
 e.born=x.1/\TV ρ (ka,x.2.1) e.key/\TV ρ (va,x.2.2) e.val/\(ka || x.2.1.length ==1)=true/\(va || x.2.2.length ==1)=true
def BlkR (ρ:Env)(w:World)(r:Nat)(b:Blk):Prop :=
 match b.kind with
 | .fix=>∃ n c k,ρ r b.ver=some (some ⟨n,0,none⟩,k)/\w.heap[n]?=some (.cells c b.ty (0,0))/\All2 (VC ρ) b.cells c.toList/\k=c.size
 | .grow=>(b.cells=[]/\ρ r b.ver=some (none,0)) \/
   ∃ n c cap xs sp,ρ r b.ver=some (some ⟨n,0,none⟩,cap)/\RowAt w n c b.ty b.esz/\c.size=cap*Jt7 b.esz/\cap<=maxLen/\c.toList=xs++sp/\All2 (VC ρ) b.cells xs
 | .ro=>∃ A k,ρ r b.ver=some (A,k)/\(b.cells≠[]->∃ a,A=some a/\a.block<w.heap.size/\(0<b.ver->a=⟨b.ver - 1,0,none⟩/\∃ c t z,w.heap[b.ver - 1]?=some (.cells c t z)/\c.size=b.cells.length)/\∀ i c,b.cells[i]?=some c->∃ v,w.cell? (a.add i)=some v/\VC ρ c v)
 | .map ka va clock es=>∃ n o k,ρ r b.ver=some (some ⟨n,0,none⟩,k)/\w.heap[n]?=some (.map o clock)/\All2 (Vk2 ρ ka va) es o.toList/\b.cells=[]
 | .iter rm since seen last=>∃ n N k k',ρ r b.ver=some (some ⟨n,0,none⟩,k)/\ρ rm 0=some (some ⟨N,0,none⟩,k')/\w.heap[n]?=some (.mapIter (some N) since seen.toArray last)/\b.cells=[]
structure RepM (ρ:Env)(mem:Ja1)(w:World):Prop where
 blk:∀ (r:Nat) (b:Blk),mem[r]?=some b->BlkR ρ w r b
 dom:∀ r v,mem.length<=r->ρ r v=none
 domv:∀ (r:Nat) (b:Blk) (v:Nat),mem[r]?=some b->b.ver<v->ρ r v=none
 sep:∀ (r s:Nat) (b c:Blk),mem[r]?=some b->mem[s]?=some c->r≠s->b.kind≠.ro->(c.kind=.ro->c.cells≠[]) ->
  ∀ x y k l,ρ r b.ver=some (some x,k)->ρ s c.ver=some (some y,l)->x.block≠y.block
structure Rep (ρ:Env)(nt:Nat)(tm:Tm)(mem:Ja1)(a:Act)(w:World):Prop where
 size:nt<=a.tmps.size
 tm:∀ i,VR ρ (Tm.get tm i) (a.tmps.getD i undef)
 mem:RepM ρ mem w
structure Step (mem:Ja1)(ρ:Env)(w:World)(mem':Ja1)(ρ':Env)(w':World):Prop where
 os:w'.os=w.os
 tape:w'.tape=w.tape
 output:w'.output=w.output
 size:w.heap.size<=w'.heap.size
 len:mem.length<=mem'.length
 ext:∀ r,r<mem.length->∀ v x,ρ r v=some x->ρ' r v=some x
 kind:∀ (r:Nat) (b b':Blk),mem[r]?=some b->mem'[r]?=some b'->b'.kind.tag=b.kind.tag
 ro:∀ (r:Nat) (b':Blk),mem'[r]?=some b'->b'.kind=.ro->mem[r]?=some b'
 frame:∀ n,n<w.heap.size->(∀ (r:Nat) (b:Blk) x k,mem[r]?=some b->b.kind≠.ro->ρ r b.ver=some (some x,k)->x.block≠n)->w'.heap[n]?=w.heap[n]?
 fresh:∀ (r:Nat) (b':Blk) x k,mem'[r]?=some b'->b'.kind≠.ro->ρ' r b'.ver=some (some x,k) ->
  w.heap.size<=x.block\/∃ (s:Nat) (b:Blk) (y:Addr) (l:Nat),mem[s]?=some b/\b.kind≠.ro/\ρ s b.ver=some (some y,l)/\y.block=x.block
theorem Step.refl (mem:Ja1)(ρ:Env)(w:World):Step mem ρ w mem ρ w where
 os:=rfl
 tape:=rfl
 output:=rfl
 size:=Nat.le_refl _
 len:=Nat.le_refl _
 ext:=fun _ _ _ _ h=>h
 kind:=fun r b b' h h'=>by rw [h] at h';injection h' with h';rw [h']
 ro:=fun _ _ h _=>h
 frame:=fun _ _ _=>rfl
 fresh:=fun r b x k h hk hx=>.inr ⟨r,b,x,k,h,hk,hx,rfl⟩
theorem Step.trans {m1 m2 m3:Ja1}{ρ1 ρ2 ρ3:Env}{w1 w2 w3:World}(h:Step m1 ρ1 w1 m2 ρ2 w2)(g:Step m2 ρ2 w2 m3 ρ3 w3):Step m1 ρ1 w1 m3 ρ3 w3 where
 os:=g.os.trans h.os
 tape:=g.tape.trans h.tape
 output:=g.output.trans h.output
 size:=Nat.le_trans h.size g.size
 len:=Nat.le_trans h.len g.len
 ext:=fun r hr v x hx=>g.ext r (Nat.lt_of_lt_of_le hr h.len) v x (h.ext r hr v x hx)
 kind:=fun r b b' hb hb'=>by
  have hr:r<m2.length:=by
   have:=(List.getElem?_eq_some_iff.1 hb).1
   have:=h.len
   omega
  have h2:=List.getElem?_eq_getElem hr
  rw [g.kind r _ _ h2 hb',h.kind r _ _ hb h2]
 ro:=fun r b h1 hk=>h.ro r b (g.ro r b h1 hk) hk
 frame:=fun n hn hne=>by
  rw [g.frame n (Nat.lt_of_lt_of_le hn h.size),h.frame n hn hne]
  intro r b x k hb hk hx
  rcases h.fresh r b x k hb hk hx with hlt|⟨s,b0,y,l,hb0,hk0,hy,he⟩
  ·omega
  ·rw [<-he];exact hne s b0 y l hb0 hk0 hy
 fresh:=fun r b x k hb hk hx=>by
  rcases g.fresh r b x k hb hk hx with hlt|⟨s,b0,y,l,hb0,hk0,hy,he⟩
  ·exact .inl (Nat.le_trans h.size hlt)
  ·rcases h.fresh s b0 y l hb0 hk0 hy with hlt|⟨s',b1,y1,l1,hb1,hk1,hy1,he1⟩
   ·exact .inl (by omega)
   ·exact .inr ⟨s',b1,y1,l1,hb1,hk1,hy1,he1.trans he⟩
theorem Step.le {mem mem':Ja1}{ρ ρ':Env}{w w':World}(h:Step mem ρ w mem' ρ' w')(hm:RepM ρ mem w):ρ.le ρ':=fun r v x hx=>by
 rcases Nat.lt_or_ge r mem.length with hr|hr
 ·exact h.ext r hr v x hx
 ·rw [hm.dom r v hr] at hx;cases hx
theorem Tm.get_put (tm:List (Nat × AV))(d:Nat)(v:AV)(i:Nat):Tm.get ((d,v)::tm) i=if i=d then v else Tm.get tm i:=rfl
theorem Rep.put {ρ:Env}{nt:Nat}{tm:Tm}{mem:Ja1}{a:Act}{w:World}(h:Rep ρ nt tm mem a w){d:Nat}(hd:d<nt){x:AV}{v:Value}(hv:VR ρ x v) :
  Rep ρ nt ((d,x)::tm) mem (a.put (some d) v) w where
 size:=by simpa [Act.put] using h.size
 tm:=fun i=>by
  have hs:=h.size
  rw [Tm.get_put]
  by_cases hi:i=d
  ·subst hi
   rw [if_pos rfl]
   have:(a.put (some i) v).tmps.getD i undef=v:=by simp [Act.put,Array.getD_eq_getD_getElem?,(by omega:i<a.tmps.size)]
   rw [this];exact hv
  ·rw [if_neg hi]
   have:(a.put (some d) v).tmps.getD i undef=a.tmps.getD i undef:=by
    simp [Act.put,Array.getD_eq_getD_getElem?,Array.getElem?_setIfInBounds_ne (fun e=>hi e.symm)]
   rw [this];exact h.tm i
 mem:=h.mem
theorem Rep.step {ρ ρ':Env}{nt:Nat}{tm:Tm}{mem mem':Ja1}{a:Act}{w w':World}(h:Rep ρ nt tm mem a w)(hs:Step mem ρ w mem' ρ' w')(hm:RepM ρ' mem' w'):Rep ρ' nt tm mem' a w' where
 size:=h.size
 tm:=fun i=>(h.tm i).mono (hs.le h.mem)
 mem:=hm
theorem Jv0 (n off:Nat):(⟨n,0,none⟩:Addr).add off=⟨n,off,none⟩:=by rw [Addr.add_lit];simp
theorem Jg3 (a:Addr)(i j:Nat):(a.add i).add j=a.add (i+j):=by
 unfold Addr.add
 by_cases hi:i=0<;>by_cases hj:j=0<;>simp [hi,hj,Nat.add_assoc]
theorem Kr2 (a:Addr)(i:Nat):(a.add i).block=a.block:=by unfold Addr.add;split<;>rfl
theorem BlkR.mono {ρ ρ':Env}(h:ρ.le ρ'){w:World}{r:Nat}{b:Blk}(hb:BlkR ρ w r b):BlkR ρ' w r b:=by
 obtain ⟨kind,ty,ver,esz,cells⟩:=b
 cases kind with
 | fix=>obtain ⟨n,c,k,h1,h2,h3,hk⟩:=hb;exact ⟨n,c,k,h _ _ _ h1,h2,h3.mono fun _ _=>VC.mono h,hk⟩
 | grow =>
  rcases hb with ⟨h1,h2⟩|⟨n,c,cap,xs,sp,h1,h2,h3,hcm,h4,h5⟩
  ·exact .inl ⟨h1,h _ _ _ h2⟩
  ·exact .inr ⟨n,c,cap,xs,sp,h _ _ _ h1,h2,h3,hcm,h4,h5.mono fun _ _=>VC.mono h⟩
 | ro =>
  obtain ⟨A,k,h1,h2⟩:=hb
  refine ⟨A,k,h _ _ _ h1,fun hne=>?_⟩
  obtain ⟨a,ha,hlt,hgl,hc⟩:=h2 hne
  exact ⟨a,ha,hlt,hgl,fun i c hi=>by obtain ⟨v,hv,hr⟩:=hc i c hi;exact ⟨v,hv,hr.mono h⟩⟩
 | map ka va clock es =>
  obtain ⟨n,o,k,h1,h2,h3,h4⟩:=hb
  exact ⟨n,o,k,h _ _ _ h1,h2,h3.mono fun _ _ ⟨g1,g2,g3,g4⟩=>⟨g1,g2.mono h,g3.mono h,g4⟩,h4⟩
 | iter rm since seen last =>
  obtain ⟨n,N,k,k',h1,h2,h3,h4⟩:=hb
  exact ⟨n,N,k,k',h _ _ _ h1,h _ _ _ h2,h3,h4⟩
theorem BlkR.heap {ρ:Env}{w w':World}{r:Nat}{b:Blk}(hb:BlkR ρ w r b)(hz:w.heap.size<=w'.heap.size)
  (h:∀ x k,ρ r b.ver=some (some x,k)->(b.kind=.ro->b.cells≠[])->x.block<w.heap.size->w'.heap[x.block]?=w.heap[x.block]?):BlkR ρ w' r b:=by
 obtain ⟨kind,ty,ver,esz,cells⟩:=b
 have hlt:∀ {n:Nat} {o:Obj},w.heap[n]?=some o->n<w.heap.size:=fun {n o} h=>(Array.getElem?_eq_some_iff.1 h).1
 cases kind with
 | fix =>
  obtain ⟨n,c,k,h1,h2,h3⟩:=hb
  exact ⟨n,c,k,h1,(h _ _ h1 (fun e=>by cases e) (hlt h2)).trans h2,h3⟩
 | grow =>
  rcases hb with ⟨h1,h2⟩|⟨n,c,cap,xs,sp,h1,h2,h3,hcm,h4,h5⟩
  ·exact .inl ⟨h1,h2⟩
  ·exact .inr ⟨n,c,cap,xs,sp,h1,h2.trans (h _ _ h1 (fun e=>by cases e) h2.lt),h3,hcm,h4,h5⟩
 | ro =>
  obtain ⟨A,k,h1,h2⟩:=hb
  refine ⟨A,k,h1,fun hne=>?_⟩
  obtain ⟨a,ha,hlt',hgl,hc⟩:=h2 hne
  subst ha
  refine ⟨a,rfl,by omega,fun hv=>?_,fun i c hi=>?_⟩
  ·obtain ⟨e,c,t,z,hh,hs⟩:=hgl hv
   subst e
   exact ⟨rfl,c,t,z,(h _ _ h1 (fun _=>hne) hlt').trans hh,hs⟩
  obtain ⟨v,hv,hr⟩:=hc i c hi
  refine ⟨v,?_,hr⟩
  rw [World.cell?_of_block (w:=w) (by rw [Kr2];exact h _ _ h1 (fun _=>hne) hlt')]
  exact hv
 | map ka va clock es =>
  obtain ⟨n,o,k,h1,h2,h3⟩:=hb
  exact ⟨n,o,k,h1,(h _ _ h1 (fun e=>by cases e) (hlt h2)).trans h2,h3⟩
 | iter rm since seen last =>
  obtain ⟨n,N,k,k',h1,h2,h3,h4⟩:=hb
  exact ⟨n,N,k,k',h1,h2,(h _ _ h1 (fun e=>by cases e) (hlt h3)).trans h3,h4⟩
theorem BlkR.lt {ρ:Env}{w:World}{r:Nat}{b:Blk}(hb:BlkR ρ w r b){x:Addr}{k:Nat}(hx:ρ r b.ver=some (some x,k))(hne:b.kind=.ro->b.cells≠[]):x.block<w.heap.size:=by
 obtain ⟨kind,ty,ver,esz,cells⟩:=b
 cases kind with
 | fix =>
  obtain ⟨n,c,k,h1,h2,h3⟩:=hb
  rw [h1] at hx;injection hx with hx;injection hx with hx _;injection hx with hx;subst hx
  exact (Array.getElem?_eq_some_iff.1 h2).1
 | grow =>
  rcases hb with ⟨h1,h2⟩|⟨n,c,cap,xs,sp,h1,h2,h3,hcm,h4,h5⟩
  ·rw [h2] at hx;injection hx with hx;injection hx with hx _;cases hx
  ·rw [h1] at hx;injection hx with hx;injection hx with hx _;injection hx with hx;subst hx
   exact h2.lt
 | ro =>
  obtain ⟨A,k,h1,h2⟩:=hb
  obtain ⟨a,ha,hlt',_⟩:=h2 (hne rfl)
  subst ha
  rw [h1] at hx;injection hx with hx;injection hx with hx _;injection hx with hx;subst hx
  exact hlt'
 | map ka va clock es =>
  obtain ⟨n,o,k,h1,h2,h3⟩:=hb
  rw [h1] at hx;injection hx with hx;injection hx with hx _;injection hx with hx;subst hx
  exact (Array.getElem?_eq_some_iff.1 h2).1
 | iter rm since seen last =>
  obtain ⟨n,N,k,k',h1,h2,h3,h4⟩:=hb
  rw [h1] at hx;injection hx with hx;injection hx with hx _;injection hx with hx;subst hx
  exact (Array.getElem?_eq_some_iff.1 h3).1
theorem Jz1 (w:World)(o:Obj)(i:Nat)(h:i<w.heap.size):(w.alloc o).heap[i]?=w.heap[i]?:=by
 show (w.heap.push o)[i]?=_
 rw [Array.getElem?_push,if_neg (by omega)]
def Env.set (ρ:Env)(r v:Nat)(x:Option Addr × Nat):Env:=fun r' v'=>if r'=r/\v'=v then some x else ρ r' v'
theorem Env.le_set {ρ:Env}{r v:Nat}{x:Option Addr × Nat}(h:ρ r v=none):ρ.le (ρ.set r v x):=fun r' v' y hy=>by
 unfold Env.set
 rw [if_neg]
 ·exact hy
 ·rintro ⟨rfl,rfl⟩;rw [h] at hy;cases hy
theorem Env.set_same (ρ:Env)(r v:Nat)(x:Option Addr × Nat):ρ.set r v x r v=some x:=by simp [Env.set]
theorem Env.set_other (ρ:Env){r v r' v':Nat}(x:Option Addr × Nat)(h:¬(r'=r/\v'=v)):ρ.set r v x r' v'=ρ r' v':=by simp [Env.set,h]
theorem RepM.new' {ρ:Env}{mem:Ja1}{w w':World}(h:RepM ρ mem w)(hos:w'.os=w.os)(htape:w'.tape=w.tape)(hout:w'.output=w.output)(hz:w.heap.size<=w'.heap.size)
  (hheap:∀ k,k<w.heap.size->w'.heap[k]?=w.heap[k]?) (b:Blk) (A:Option Addr) (cap:Nat) (hA:∀ x,A=some x->w.heap.size<=x.block) (hkr:b.kind≠.ro)
  (hb:BlkR (ρ.set mem.length b.ver (A,cap)) w' mem.length b) :
  RepM (ρ.set mem.length b.ver (A,cap)) (mem++[b]) w'/\Step mem ρ w (mem++[b]) (ρ.set mem.length b.ver (A,cap)) w':=by
 have hle:ρ.le (ρ.set mem.length b.ver (A,cap)):=Env.le_set (h.dom _ _ (Nat.le_refl _))
 have hgt:∀ {r:Nat} {c:Blk},(mem++[b])[r]?=some c->(r<mem.length/\mem[r]?=some c)\/(r=mem.length/\c=b):=by
  intro r c hc
  rcases Nat.lt_trichotomy r mem.length with hr|hr|hr
  ·exact .inl ⟨hr,by rwa [List.getElem?_append_left hr] at hc⟩
  ·subst hr;simp at hc;exact .inr ⟨rfl,hc.symm⟩
  ·rw [List.getElem?_append_right (by omega)] at hc
   rw [List.getElem?_eq_none (by simp;omega)] at hc
   cases hc
 have hold:∀ {r:Nat} {v:Nat},r<mem.length->ρ.set mem.length b.ver (A,cap) r v=ρ r v:=fun {r v} hr=>Env.set_other ρ _ (by omega)
 have hlt:∀ {r:Nat} {c:Blk} {x:Addr} {k:Nat},mem[r]?=some c->ρ r c.ver=some (some x,k)->(c.kind=.ro->c.cells≠[])->x.block<w.heap.size:=fun {r c x k} hc hx hne=>(h.blk r c hc).lt hx hne
 refine ⟨⟨?_,?_,?_,?_⟩,⟨hos,htape,hout,hz,by simp,fun r hr v x hx=>hle _ _ _ hx,?_,?_,?_,?_⟩⟩
 ·intro r c hc
  rcases hgt hc with ⟨hr,hc⟩|⟨rfl,rfl⟩
  ·refine ((h.blk r c hc).mono hle).heap hz fun x k hx hne hl=>?_
   exact hheap _ hl
  ·exact hb
 ·intro r v hr
  simp at hr
  rw [Env.set_other ρ _ (by omega)]
  exact h.dom r v (by omega)
 ·intro r c v hc hv
  rcases hgt hc with ⟨hr,hc⟩|⟨rfl,rfl⟩
  ·rw [hold hr];exact h.domv r c v hc hv
  ·rw [Env.set_other ρ _ (by omega)];exact h.dom _ _ (Nat.le_refl _)
 ·intro r s c d hc hd hrs hk hne x y k l hx hy
  rcases hgt hc with ⟨hr,hc1⟩|⟨e1,e2⟩<;>rcases hgt hd with ⟨hs,hd1⟩|⟨e3,e4⟩
  ·rw [hold hr] at hx;rw [hold hs] at hy
   exact h.sep r s c d hc1 hd1 hrs hk hne x y k l hx hy
  ·subst e3;subst e4;rw [hold hr] at hx;rw [Env.set_same] at hy
   injection hy with hy;injection hy with hy _
   have:=hlt hc1 hx (fun e=>absurd e hk)
   have:=hA y hy
   omega
  ·subst e1;subst e2;rw [hold hs] at hy;rw [Env.set_same] at hx
   injection hx with hx;injection hx with hx _
   have:=hlt hd1 hy hne
   have:=hA x hx
   omega
  ·exact absurd (e1.trans e3.symm) hrs
 ·intro r c c' hc hc'
  rcases hgt hc' with ⟨hr,hc'⟩|⟨rfl,rfl⟩
  ·rw [hc] at hc';injection hc' with e;rw [e]
  ·simp at hc
 ·intro r c hc hro
  rcases hgt hc with ⟨hr,hc1⟩|⟨e1,e2⟩
  ·exact hc1
  ·subst e2;exact absurd hro hkr
 ·intro n hn _;exact hheap n hn
 ·intro r c x k hc hk hx
  rcases hgt hc with ⟨hr,hc⟩|⟨rfl,rfl⟩
  ·rw [hold hr] at hx;exact .inr ⟨r,c,x,k,hc,hk,hx,rfl⟩
  ·rw [Env.set_same] at hx;injection hx with hx;injection hx with hx _
   exact .inl (by have:=hA x hx;omega)
theorem RepM.new {ρ:Env}{mem:Ja1}{w:World}(h:RepM ρ mem w)(o:Obj)(b:Blk)(A:Option Addr)(cap:Nat)(hA:∀ x,A=some x->x.block=w.heap.size)(hkr:b.kind≠.ro)
  (hb:BlkR (ρ.set mem.length b.ver (A,cap)) (w.alloc o) mem.length b) :
  RepM (ρ.set mem.length b.ver (A,cap)) (mem++[b]) (w.alloc o)/\Step mem ρ w (mem++[b]) (ρ.set mem.length b.ver (A,cap)) (w.alloc o) :=
 h.new' (w':=w.alloc o) rfl rfl rfl (by simp) (fun k hk=>Jz1 w o k hk) b A cap (fun x e=>Nat.le_of_eq (hA x e).symm) hkr hb
theorem RepM.newFix {ρ:Env}{mem:Ja1}{w:World}(h:RepM ρ mem w)(ty:TypeId)(esz:Nat)(cells:List CV)(c:Array Value)(hc:All2 (VC ρ) cells c.toList) :
  let ρ':=ρ.set mem.length 0 (some ⟨w.heap.size,0,none⟩,c.size)
  RepM ρ' (mem++[⟨.fix,ty,0,esz,cells⟩]) (w.alloc (.cells c ty))/\Step mem ρ w (mem++[⟨.fix,ty,0,esz,cells⟩]) ρ' (w.alloc (.cells c ty)) /\
   VC ρ' (.ptr mem.length 0 0) (.pointer (some ⟨w.heap.size,0,none⟩)):=by
 have hle:ρ.le (ρ.set mem.length 0 (some ⟨w.heap.size,0,none⟩,c.size)):=Env.le_set (h.dom _ _ (Nat.le_refl _))
 have:=h.new (.cells c ty) ⟨.fix,ty,0,esz,cells⟩ (some ⟨w.heap.size,0,none⟩) c.size (fun x e=>by injection e with e;rw [<-e]) (by simp)
  ⟨w.heap.size,c,c.size,Env.set_same _ _ _ _,heap_alloc_new w _,hc.mono fun _ _=>VC.mono hle,rfl⟩
 exact ⟨this.1,this.2,_,_,Env.set_same _ _ _ _,by rw [Jv0]⟩
theorem RepM.newRow {ρ:Env}{mem:Ja1}{w:World}(h:RepM ρ mem w)(ty:TypeId)(esz:Nat)(cells:List CV)(c:Array Value)(xs sp:List Value)(cap len:Nat)(he:esz≠0)(hsz:c.size=cap*esz)
  (hxs:c.toList=xs++sp) (hc:All2 (VC ρ) cells xs) (hlen:len<=cap) (hcap:cap<=maxLen) :
  let ρ':=ρ.set mem.length 0 (some ⟨w.heap.size,0,none⟩,cap)
  RepM ρ' (mem++[⟨.grow,ty,0,esz,cells⟩]) (w.alloc (.cells c ty))/\Step mem ρ w (mem++[⟨.grow,ty,0,esz,cells⟩]) ρ' (w.alloc (.cells c ty)) /\
   VC ρ' (.sl mem.length 0 0 len) (.slice (some ⟨w.heap.size,0,none⟩) len cap):=by
 have hle:ρ.le (ρ.set mem.length 0 (some ⟨w.heap.size,0,none⟩,cap)):=Env.le_set (h.dom _ _ (Nat.le_refl _))
 have:=h.new (.cells c ty) ⟨.grow,ty,0,esz,cells⟩ (some ⟨w.heap.size,0,none⟩) cap (fun x e=>by injection e with e;rw [<-e]) (by simp)
  (.inr ⟨w.heap.size,c,cap,xs,sp,Env.set_same _ _ _ _,RowAt.plain (heap_alloc_new w _),by show c.size=cap*Jt7 esz;rw [Jt6 he];exact hsz,hcap,hxs,hc.mono fun _ _=>VC.mono hle⟩)
 exact ⟨this.1,this.2,_,_,_,_,Env.set_same _ _ _ _,rfl,hlen,fun _=>⟨_,rfl,by rw [Jv0]⟩,fun _=>⟨rfl,rfl⟩⟩
theorem RepM.regrow {ρ:Env}{mem:Ja1}{w w':World}(h:RepM ρ mem w)(hos:w'.os=w.os)(htape:w'.tape=w.tape)(hout:w'.output=w.output)(hz:w.heap.size<=w'.heap.size)
  {r:Nat} {b:Blk} (hb:mem[r]?=some b) (hk:b.kind=.grow) (hheap:∀ k,k<w.heap.size->(∀ x l,ρ r b.ver=some (some x,l)->x.block≠k)->w'.heap[k]?=w.heap[k]?)
  (b':Blk) (hk':b'.kind=.grow) (hv':b'.ver=b.ver+1) (A:Option Addr) (cap:Nat)
  (hA:∀ x,A=some x->w.heap.size<=x.block\/∃ y l,ρ r b.ver=some (some y,l)/\y.block=x.block)
  (hbk:BlkR (ρ.set r (b.ver+1) (A,cap)) w' r b') :
  RepM (ρ.set r (b.ver+1) (A,cap)) (mem.set r b') w'/\Step mem ρ w (mem.set r b') (ρ.set r (b.ver+1) (A,cap)) w':=by
 have hrl:r<mem.length:=(List.getElem?_eq_some_iff.1 hb).1
 have hle:ρ.le (ρ.set r (b.ver+1) (A,cap)):=Env.le_set (h.domv r b _ hb (by omega))
 have hgt:∀ {s:Nat} {d:Blk},(mem.set r b')[s]?=some d->(s≠r/\mem[s]?=some d)\/(s=r/\d=b'):=by
  intro s d hd
  by_cases hs:s=r
  ·subst hs
   rw [List.getElem?_set_self hrl] at hd
   injection hd with hd
   exact .inr ⟨rfl,hd.symm⟩
  ·rw [List.getElem?_set_ne (fun e=>hs e.symm)] at hd
   exact .inl ⟨hs,hd⟩
 have hkne:b.kind≠.ro:=by rw [hk];intro e;cases e
 have hlt:∀ {s:Nat} {c:Blk} {x:Addr} {k:Nat},mem[s]?=some c->ρ s c.ver=some (some x,k)->(c.kind=.ro->c.cells≠[])->x.block<w.heap.size:=fun {s c x k} hc hx hne=>(h.blk s c hc).lt hx hne
 have hoth:∀ {s:Nat} {v:Nat},s≠r->ρ.set r (b.ver+1) (A,cap) s v=ρ s v:=fun {s v} hs=>Env.set_other ρ _ (by omega)
 have hcur:ρ.set r (b.ver+1) (A,cap) r b'.ver=some (A,cap):=by rw [hv'];exact Env.set_same _ _ _ _
 refine ⟨⟨?_,?_,?_,?_⟩,⟨hos,htape,hout,hz,by simp,fun s hs v x hx=>hle _ _ _ hx,?_,?_,?_,?_⟩⟩
 ·intro s d hd
  rcases hgt hd with ⟨hs,hd1⟩|⟨e1,e2⟩
  ·refine ((h.blk s d hd1).mono hle).heap hz fun x l hx hne hl=>?_
   rw [hoth hs] at hx
   exact hheap _ hl fun y m hy e=>h.sep r s b d hb hd1 (fun e=>hs e.symm) hkne hne _ _ _ _ hy hx e
  ·subst e1;subst e2;exact hbk
 ·intro s v hs
  simp at hs
  rw [hoth (by omega)]
  exact h.dom s v hs
 ·intro s d v hd hv
  rcases hgt hd with ⟨hs,hd1⟩|⟨e1,e2⟩
  ·rw [hoth hs];exact h.domv s d v hd1 hv
  ·subst e1;subst e2
   rw [Env.set_other ρ _ (by omega)]
   exact h.domv s b v hb (by omega)
 ·intro s t d e hd he hst hkd hne x y k1 k2 hx hy
  rcases hgt hd with ⟨hs,hd1⟩|⟨e1,e2⟩<;>rcases hgt he with ⟨ht,he1⟩|⟨e3,e4⟩
  ·rw [hoth hs] at hx;rw [hoth ht] at hy
   exact h.sep s t d e hd1 he1 hst hkd hne x y k1 k2 hx hy
  ·subst e3;subst e4
   rw [hoth hs] at hx;rw [hcur] at hy
   injection hy with hy;injection hy with hy _
   rcases hA y hy with hge|⟨z,l,hz',he'⟩
   ·have:=hlt hd1 hx (fun e=>absurd e hkd);omega
   ·rw [<-he'];exact h.sep s t d b hd1 hb hst hkd (fun e=>absurd e hkne) x z k1 l hx hz'
  ·subst e1;subst e2
   rw [hcur] at hx;rw [hoth ht] at hy
   injection hx with hx;injection hx with hx _
   rcases hA x hx with hge|⟨z,l,hz',he'⟩
   ·have:=hlt he1 hy hne;omega
   ·rw [<-he'];exact h.sep s t b e hb he1 hst hkne hne z y l k2 hz' hy
  ·exact absurd (e1.trans e3.symm) hst
 ·intro s d d' hd hd'
  rcases hgt hd' with ⟨hs,hd1⟩|⟨e1,e2⟩
  ·rw [hd] at hd1;injection hd1 with e;rw [e]
  ·subst e1;subst e2;rw [hb] at hd;injection hd with e;rw [<-e,hk',hk]
 ·intro s d hd hro
  rcases hgt hd with ⟨hs,hd1⟩|⟨e1,e2⟩
  ·exact hd1
  ·subst e2;rw [hk'] at hro;cases hro
 ·intro m hm hne
  exact hheap m hm fun x l hx=>hne r b x l hb hkne hx
 ·intro s d x l hd hkd hx
  rcases hgt hd with ⟨hs,hd1⟩|⟨e1,e2⟩
  ·rw [hoth hs] at hx;exact .inr ⟨s,d,x,l,hd1,hkd,hx,rfl⟩
  ·subst e1;subst e2
   rw [hcur] at hx;injection hx with hx;injection hx with hx _
   rcases hA x hx with hge|⟨z,l',hz',he'⟩
   ·exact .inl hge
   ·exact .inr ⟨s,b,z,l',hb,hkne,hz',he'⟩
def Jq4 (cells:List CV):Nat->Nat->Option (List CV)
 | _,0=>some []
 | off,n+1=>match cells[off]? with
  | some c=>(Jq4 cells (off+1) n).map (c::·)
  | none=>none
def setL {α:Type}:List α->Nat->List α->List α
 | l,_,[]=>l
 | l,i,v::vs=>setL (l.set i v) (i+1) vs
theorem Jn6 {α:Type}:∀ (vs l:List α) (i:Nat),(setL l i vs).length=l.length
 | [],_,_=>rfl
 | v::vs,l,i=>by simp [setL,Jn6 vs]
theorem All2.setL {α β:Type}{R:α->β->Prop}:∀ {as:List α} {bs:List β} {l:List α} {m:List β} (i:Nat),All2 R l m->All2 R as bs->All2 R (Eng.setL l i as) (Eng.setL m i bs)
 | [],[],_,_,_,h,_=>h
 | _::_,_::_,_,_,i,h,h'=>All2.setL (i+1) (h.set h'.1) h'.2
 | [],_::_,_,_,_,_,h=>h.elim
 | _::_,[],_,_,_,_,h=>h.elim
theorem Kj9 {α:Type}:∀ (vs l r:List α) (i:Nat),i+vs.length<=l.length->setL (l++r) i vs=setL l i vs++r
 | [],_,_,_,_=>rfl
 | v::vs,l,r,i,h=>by
  simp at h
  simp only [setL]
  rw [List.set_append_left _ _ (by omega),Kj9 vs _ _ _ (by simp;omega)]
theorem Ki9 {ρ:Env}{w:World}{r:Nat}{b:Blk}(hb:BlkR ρ w r b){a:Addr}{k:Nat}(ha:ρ r b.ver=some (some a,k)){i:Nat}{c:CV}(hc:b.cells[i]?=some c) :
  ∃ v,w.cell? (a.add i)=some v/\VC ρ c v:=by
 obtain ⟨kind,ty,ver,esz,cells⟩:=b
 cases kind with
 | fix =>
  obtain ⟨n,cs,k,h1,h2,h3,_⟩:=hb
  rw [h1] at ha;injection ha with ha;injection ha with ha _;injection ha with ha;subst ha
  obtain ⟨v,hv,hr⟩:=h3.get hc
  exact ⟨v,by rw [Jv0,cell_of_row w n i _ _ _ h2];simpa using hv,hr⟩
 | grow =>
  rcases hb with ⟨h1,h2⟩|⟨n,cs,cap,xs,sp,h1,h2,h3,hcm,h4,h5⟩
  ·rw [h2] at ha;injection ha with ha;injection ha with ha _;cases ha
  ·rw [h1] at ha;injection ha with ha;injection ha with ha _;injection ha with ha;subst ha
   obtain ⟨v,hv,hr⟩:=h5.get hc
   obtain ⟨fz,_,h2⟩:=h2
   refine ⟨v,?_,hr⟩
   rw [Jv0,cell_of_row w n i _ _ _ h2]
   have:cs.toList[i]?=some v:=by rw [h4];rw [List.getElem?_append_left (List.getElem?_eq_some_iff.1 hv).1];exact hv
   simpa using this
 | ro =>
  obtain ⟨A,k',h1,h2⟩:=hb
  obtain ⟨a',ha',_,_,hcs⟩:=h2 (by
   show cells≠[]
   intro e
   have hc':cells[i]?=some c:=hc
   rw [e] at hc';simp at hc')
  subst ha'
  rw [h1] at ha;injection ha with ha;injection ha with ha _;injection ha with ha;subst ha
  exact hcs i c hc
 | map ka va clock es=>obtain ⟨n,o,k,_,_,_,h⟩:=hb;simp only at h;subst h;simp at hc
 | iter rm since seen last=>obtain ⟨n,N,k,k',_,_,_,h⟩:=hb;simp only at h;subst h;simp at hc
theorem Kk2 {P:Program}{ρ:Env}{w:World}{r:Nat}{b:Blk}(hb:BlkR ρ w r b){a:Addr}{k:Nat}(ha:ρ r b.ver=some (some a,k))(off0:Nat) :
  ∀ (n off:Nat) (cs:List CV) (acc:Array Value),Jq4 b.cells (off0+off) n=some cs ->
   ∃ vs:List Value,(loadCellsFrom (a.add off0) off n acc).run P w=.ok (acc++vs.toArray) w/\All2 (VC ρ) cs vs
 | 0,off,cs,acc,h=>by
  simp [Jq4] at h;subst h
  exact ⟨[],by simp [loadCellsFrom],trivial⟩
 | n+1,off,cs,acc,h=>by
  simp only [Jq4] at h
  split at h
  ·rename_i c hc
   simp only [Option.map_eq_some_iff] at h
   obtain ⟨cs',h',rfl⟩:=h
   obtain ⟨v,hv,hr⟩:=Ki9 hb ha hc
   obtain ⟨vs,hrun,hall⟩:=Kk2 (P:=P) hb ha off0 n (off+1) cs' (acc.push v) (by rw [<-Nat.add_assoc];exact h')
   refine ⟨v::vs,?_,hr,hall⟩
   simp only [loadCellsFrom,Sem.run_bind,run_load,Jg3,hv,Result.andThen_ok,hrun]
   congr 1
   apply Array.ext'
   simp
  ·cases h
theorem Js9 {P:Program}(n:Nat)(ty:TypeId)(off:Nat)(fz:Nat × Nat):∀ (vs:List Value) (i:Nat) (w:World) (c:Array Value),w.heap[n]?=some (.cells c ty fz)->(∀ k,k<c.size->¬(fz.1<=k/\k<fz.2))->off+i+vs.length<=c.size->(∀ v ∈ vs,v.oneCell'=true) ->
  ∃ w',(storeCells (⟨n,off,none⟩:Addr) vs i).run P w=.ok () w'/\w'.heap[n]?=some (.cells (setL c.toList (off+i) vs).toArray ty fz)/\(∀ m,m≠n->w'.heap[m]?=w.heap[m]?) /\
   w'.heap.size=w.heap.size/\w'.os=w.os/\w'.tape=w.tape/\w'.output=w.output
 | [],i,w,c,h,_,_,_=>⟨w,by simp [storeCells],by simpa [setL] using h,fun _ _=>rfl,rfl,rfl,rfl,rfl⟩
 | v::vs,i,w,c,h,hfz,hsz,hone=>by
  simp at hsz
  have hcell:w.cell? ⟨n,off+i,none⟩=some c[off+i]:=by rw [cell_of_row w n _ _ _ _ h];simp
  have hset:(w.setCell ⟨n,off+i,none⟩ v).heap[n]?=some (.cells (c.setIfInBounds (off+i) v) ty fz):=by
   rw [setCell_eq_setRow w n (off+i) c ty fz v h];exact setRow_heap w n c _ ty _ h
  have hfr:w.frozen? ⟨n,off+i,none⟩=false:=by
   have:=hfz (off+i) (by omega)
   simp only [World.frozen?,h,Bool.and_eq_false_iff,decide_eq_false_iff_not];omega
  obtain ⟨w',hrun,hh,hoth,hsize,hos,htape,hout⟩:=Js9 (P:=P) n ty off fz vs (i+1) (w.setCell ⟨n,off+i,none⟩ v) (c.setIfInBounds (off+i) v) hset (by simpa using hfz) (by simp;omega) (fun v hv=>hone v (List.mem_cons_of_mem _ hv))
  refine ⟨w',?_,?_,fun m hm=>(hoth m hm).trans (heap_setCell_other w _ m v hm),by rw [hsize];simp,hos,htape,hout⟩
  ·simp only [storeCells,Sem.run_bind,Addr.add_lit]
   rw [run_store P w _ v _ (hone v List.mem_cons_self)]
   rw [hcell,hfr]
   simpa using hrun
  ·rw [hh]
   simp [setL,Nat.add_assoc]
theorem RepM.store {P:Program}{ρ:Env}{mem:Ja1}{w:World}(h:RepM ρ mem w){r:Nat}{b:Blk}(hb:mem[r]?=some b)(hk:b.kind≠.ro){a:Addr}{k:Nat}(ha:ρ r b.ver=some (some a,k))
    {off:Nat} {cs:List CV} {vs:List Value} (hvs:All2 (VC ρ) cs vs) (hoff:off+cs.length<=b.cells.length) (hone:∀ v ∈ vs,v.oneCell'=true) :
    ∃ w',(storeCells (a.add off) vs 0).run P w=.ok () w'/\RepM ρ (mem.set r { b with cells:=setL b.cells off cs }) w'/\Step mem ρ w (mem.set r { b with cells:=setL b.cells off cs }) ρ w':=by
  have hbk:=h.blk r b hb
  have hrl:r<mem.length:=(List.getElem?_eq_some_iff.1 hb).1
  rcases Classical.em (cs=[]) with hcs|hcs
  · subst hcs
    have hvn:vs=[]:=List.length_eq_zero_iff.1 (by simpa using hvs.length.symm)
    subst hvn
    have e:mem.set r { b with cells:=setL b.cells off [] }=mem:=by
      refine List.ext_getElem? fun i=>?_
      by_cases hi:r=i
      · subst hi;rw [List.getElem?_set_self hrl,hb];rfl
      · rw [List.getElem?_set_ne hi]
    rw [e]
    exact ⟨w,by simp [storeCells],h,Step.refl _ _ _⟩
  have hcl0:0<cs.length:=List.length_pos_iff.2 hcs
  obtain ⟨n,c,fz,hn,hheap,hfz,hsz,hnew⟩:∃ n c fz,a=⟨n,0,none⟩/\w.heap[n]?=some (.cells c b.ty fz)/\(∀ k,k<c.size->¬(fz.1<=k/\k<fz.2))/\off+vs.length<=c.size /\
      ∀ w':World,w'.heap[n]?=some (.cells (setL c.toList off vs).toArray b.ty fz)->BlkR ρ w' r { b with cells:=setL b.cells off cs }:=by
    obtain ⟨kind,ty,ver,esz,cells⟩:=b
    have hl:=hvs.length
    cases kind with
    | fix =>
      obtain ⟨n,c,k',h1,h2,h3,hkk⟩:=hbk
      have ha':=ha
      rw [h1] at ha';injection ha' with ha';injection ha' with ha' _;injection ha' with ha'
      have hcl:=h3.length
      refine ⟨n,c,(0,0),ha'.symm,h2,fun k _=>by simp,?_,fun w' hw'=>⟨n,_,k',h1,hw',?_,?_⟩⟩
      · simp at hcl hoff;omega
      · simpa using h3.setL off hvs
      · rw [hkk];simp [Jn6]
    | grow =>
      rcases hbk with ⟨h1,h2⟩|⟨n,c,cap,xs,sp,h1,h2,h3,hcm,h4,h5⟩
      · have ha':=ha
        rw [h2] at ha';injection ha' with ha';injection ha' with ha' _;cases ha'
      · have ha':=ha
        rw [h1] at ha';injection ha' with ha';injection ha' with ha' _;injection ha' with ha'
        have hcl:=h5.length
        have hcs:c.size=xs.length+sp.length:=by rw [<-Array.length_toList,h4,List.length_append]
        simp at hcl hoff
        obtain ⟨fz,hfz,h2⟩:=h2
        refine ⟨n,c,fz,ha'.symm,h2,fun k hk=>by (rcases hfz with rfl|rfl);· simp
                                                · unfold fzOf;split<;>simp;omega,by omega,fun w' hw'=>.inr ⟨n,(setL c.toList off vs).toArray,cap,setL xs off vs,sp,h1,⟨fz,by simpa [Jn6] using hfz,hw'⟩,?_,hcm,?_,h5.setL off hvs⟩⟩
        · simp [Jn6,h3]
        · show (setL c.toList off vs).toArray.toList=_
          rw [List.toList_toArray,h4,Kj9 _ _ _ _ (by omega)]
    | ro=>exact absurd rfl hk
    | map ka va clock es=>obtain ⟨n,o,k,_,_,_,h⟩:=hbk;simp only at h hoff;subst h;simp at hoff;exact absurd hoff.2 hcs
    | iter rm since seen last=>obtain ⟨n,N,k,k',_,_,_,h⟩:=hbk;simp only at h hoff;subst h;simp at hoff;exact absurd hoff.2 hcs
  subst hn
  obtain ⟨w',hrun,hh,hoth,hsize,hos,htape,hout⟩:=Js9 (P:=P) n b.ty off fz vs 0 w c hheap hfz (by omega) hone
  rw [Jv0]
  have hgt:∀ {s:Nat} {d:Blk},(mem.set r { b with cells:=setL b.cells off cs })[s]?=some d->(s≠r/\mem[s]?=some d)\/(s=r/\d={ b with cells:=setL b.cells off cs }):=by
    intro s d hd
    by_cases hs:s=r
    · subst hs
      rw [List.getElem?_set_self hrl] at hd
      injection hd with hd
      exact .inr ⟨rfl,hd.symm⟩
    · rw [List.getElem?_set_ne (fun e=>hs e.symm)] at hd
      exact .inl ⟨hs,hd⟩
  refine ⟨w',hrun,⟨?_,?_,?_,?_⟩,⟨hos,htape,hout,by omega,by simp,fun _ _ _ _ h=>h,?_,?_,?_,?_⟩⟩
  · intro s d hd
    rcases hgt hd with ⟨hs,hd⟩|⟨rfl,rfl⟩
    · refine (h.blk s d hd).heap (by omega) fun x l hx hne _=>hoth _ ?_
      exact fun e=>h.sep r s b d hb hd (fun e=>hs e.symm) hk hne _ _ _ _ ha hx e.symm
    · exact hnew w' (by simpa using hh)
  · intro s v hs;exact h.dom s v (by simpa using hs)
  · intro s d v hd hv
    rcases hgt hd with ⟨hs,hd⟩|⟨rfl,rfl⟩
    · exact h.domv s d v hd hv
    · exact h.domv s b v hb hv
  · intro s t d e hd he hst hkd hne x y k1 k2 hx hy
    rcases hgt hd with ⟨hs,hd1⟩|⟨e1,e2⟩<;>rcases hgt he with ⟨ht,he1⟩|⟨e3,e4⟩
    · exact h.sep s t d e hd1 he1 hst hkd hne x y k1 k2 hx hy
    · subst e3;subst e4;exact h.sep s t d b hd1 hb hst hkd (fun e=>absurd e hk) x y k1 k2 hx hy
    · subst e1;subst e2;exact h.sep s t b e hb he1 hst hk hne x y k1 k2 hx hy
    · exact absurd (e1.trans e3.symm) hst
  · intro s d d' hd hd'
    rcases hgt hd' with ⟨hs,hd'⟩|⟨rfl,rfl⟩
    · rw [hd] at hd';injection hd' with e;rw [e]
    · rw [hb] at hd;injection hd with e;rw [<-e]
  · intro s d hd hro
    rcases hgt hd with ⟨hs,hd1⟩|⟨e1,e2⟩
    · exact hd1
    · subst e2;exact absurd hro hk
  · intro m hm hne
    exact hoth m (fun e=>hne r b _ _ hb hk ha (by rw [e]))
  · intro s d x l hd hkd hx
    rcases hgt hd with ⟨hs,hd⟩|⟨rfl,rfl⟩
    · exact .inr ⟨s,d,x,l,hd,hkd,hx,rfl⟩
    · exact .inr ⟨s,b,x,l,hb,hk,hx,rfl⟩
def CV.isVal:CV->Bool
 | .und=>false
 | .view _ _ _ _=>false
 | .junk=>false
 | _=>true
theorem CV.one_of_isVal {ρ:Env}{c:CV}{v:Value}(h:c.isVal=true)(hv:VC ρ c v):v.oneCell'=true/\v.cells=#[v]:=by
 cases c<;>simp [CV.isVal] at h
 case bool b=>have e:v=_:=hv;subst e;exact ⟨rfl,rfl⟩
 case int k n=>have e:v=_:=hv;subst e;exact ⟨rfl,rfl⟩
 case str s=>have e:v=_:=hv;subst e;exact ⟨rfl,rfl⟩
 case ptr r ver off=>obtain ⟨a,k,_,e⟩:=hv;subst e;exact ⟨rfl,rfl⟩
 case nilp=>have e:v=_:=hv;subst e;exact ⟨rfl,rfl⟩
 case sl r ver off len=>obtain ⟨A,c0,B,c,_,e,_⟩:=hv;subst e;exact ⟨rfl,rfl⟩
 case nils=>have e:v=_:=hv;subst e;exact ⟨rfl,rfl⟩
 case fn f caps=>obtain ⟨vs,e,_⟩:=hv;subst e;exact ⟨rfl,rfl⟩
 case nilf=>have e:v=_:=hv;subst e;exact ⟨rfl,rfl⟩
 case nili=>have e:v=_:=hv;subst e;exact ⟨rfl,rfl⟩
 case mp r ver=>obtain ⟨n,k,_,e⟩:=hv;subst e;exact ⟨rfl,rfl⟩
 case nilm=>have e:v=_:=hv;subst e;exact ⟨rfl,rfl⟩
 case gp g off=>have e:v=_:=hv;subst e;exact ⟨rfl,rfl⟩
 case ifj t=>obtain ⟨x,e⟩:=hv;subst e;exact ⟨rfl,rfl⟩
 case bm f cs=>obtain ⟨vs,e,_⟩:=hv;subst e;exact ⟨rfl,rfl⟩
def Jj4:Value->CV
 | .bool b=>.bool b
 | .int k n=>.int k n
 | .string s=>.str s
 | .pointer none=>.nilp
 | .slice none 0 0=>.nils
 | .nilFunc=>.nilf
 | .nilIface=>.nili
 | .map none=>.nilm
 | _=>.junk
def ofV:Value->AV
 | .agg cs=>.agg (cs.toList.map Jj4)
 | v=>.one (Jj4 v)
theorem Kq0 (ρ:Env)(v:Value):VC ρ (Jj4 v) v:=by
 unfold Jj4
 split<;>first|rfl|trivial
theorem Jn9 (ρ:Env):∀ l:List Value,All2 (VC ρ) (l.map Jj4) l
 | []=>trivial
 | v::l=>⟨Kq0 ρ v,Jn9 ρ l⟩
theorem Vi7 (ρ:Env)(v:Value):VR ρ (ofV v) v:=by
 unfold ofV
 split
 ·rename_i cs;exact ⟨cs,rfl,Jn9 ρ _⟩
 ·exact Kq0 ρ v
def opd (tm:List (Nat × AV)):Operand->AV
 | .tmp t=>Tm.get tm t
 | .const v=>ofV v
 | .global g=>.one (.gp g 0)
 | .func f=>.one (.fn f [])
theorem Rep.opd {ρ:Env}{nt:Nat}{tm:Tm}{mem:Ja1}{a:Act}{w:World}(h:Rep ρ nt tm mem a w)(x:Operand):VR ρ (Eng.opd tm x) (a.eval x):=by
 cases x with
 | tmp t=>exact h.tm t
 | const v=>exact Vi7 ρ v
 | global g=>rfl
 | func f=>exact ⟨#[],rfl,trivial⟩
def AV.cells:AV->Option (List CV)
 | .one c=>if c.isVal then some [c] else none
 | .agg cs=>some cs
 | .tup _=>none
theorem VR.cells {ρ:Env}{x:AV}{v:Value}(h:VR ρ x v){cs:List CV}(hc:x.cells=some cs):All2 (VC ρ) cs v.cells.toList:=by
 cases x with
 | one c =>
  simp only [AV.cells] at hc
  split at hc
  ·rename_i hv
   injection hc with hc
   subst hc
   rw [(CV.one_of_isVal hv h).2]
   exact ⟨h,trivial⟩
  ·cases hc
 | agg cs' =>
  injection hc with hc
  subst hc
  obtain ⟨vs,rfl,h2⟩:=h
  exact h2
 | tup ts=>cases hc
theorem All2.one_of_isVal {ρ:Env}:∀ {cs:List CV} {vs:List Value},All2 (VC ρ) cs vs->cs.all CV.isVal=true->∀ v ∈ vs,v.oneCell'=true
 | [],[],_,_,v,hv=>by cases hv
 | c::cs,u::vs,h,ha,v,hv=>by
  simp only [List.all_cons,Bool.and_eq_true] at ha
  rcases List.mem_cons.1 hv with rfl|hv
  ·exact (CV.one_of_isVal ha.1 h.1).1
  ·exact All2.one_of_isVal h.2 ha.2 v hv
 | [],_::_,h,_,_,_=>h.elim
 | _::_,[],h,_,_,_=>h.elim
section
variable (P:Program)
def Jf5 (t:TypeId):Option Nat:=(P.info? t).map (·.size)
def Kq4 (t:TypeId):Option Nat:=(P.info? t).map (·.bytes)
def Jc0 (t:TypeId):Option Value:=(P.info? t).bind (·.zero)
def Jd2 (t:TypeId):Option Bool:=(P.underlying t).map fun | .struct _=>true | .array _ _=>true|_=>false
theorem Je7 {t:TypeId}{n:Nat}(h:Jf5 P t=some n)(w:World):(sizeOf t).run P w=.ok n w:=by
 unfold Jf5 at h
 simp only [Option.map_eq_some_iff] at h
 obtain ⟨i,hi,rfl⟩:=h
 simp [sizeOf,typeInfo,hi]
theorem Jx4 {t:TypeId}{b:Bool}(h:Jd2 P t=some b)(w:World):(isAgg t).run P w=.ok b w:=by
 unfold Jd2 at h
 simp only [Option.map_eq_some_iff] at h
 obtain ⟨d,hd,hb⟩:=h
 cases d<;>simp at hb<;>subst hb<;>simp [isAgg,run_underlying hd]
theorem Jh6 {t:TypeId}{z:Value}(h:Jc0 P t=some z)(w:World):(zeroValue t).run P w=.ok z w:=by
 unfold Jc0 at h
 simp only [Option.bind_eq_some_iff] at h
 obtain ⟨i,hi,hz⟩:=h
 simp [zeroValue,typeInfo,hi,hz]
def Kh6 (t:TypeId)(cs:List CV)(off:Nat):Option AV :=
 match Jd2 P t with
 | some true=>match Jf5 P t with
  | some n=>(Jq4 cs off n).map .agg
  | none=>none
 | some false=>(cs[off]?).map .one
 | none=>none
theorem Ks4:∀ {cells:List CV} {n off:Nat} {cs:List CV},Jq4 cells off n=some cs->off+n<=cells.length+(if n=0 then off else 0)/\cs=(cells.drop off).take n
 | cells,0,off,cs,h=>by simp [Jq4] at h;subst h;simp
 | cells,n+1,off,cs,h=>by
  simp only [Jq4] at h
  split at h
  ·rename_i c hc
   simp only [Option.map_eq_some_iff] at h
   obtain ⟨cs',h',rfl⟩:=h
   obtain ⟨h1,h2⟩:=Ks4 h'
   obtain ⟨hlt,hce⟩:=List.getElem?_eq_some_iff.1 hc
   refine ⟨?_,?_⟩
   ·rw [if_neg (by omega)]
    by_cases hn:n=0
    ·subst hn;omega
    ·rw [if_neg hn] at h1;omega
   ·rw [List.drop_eq_getElem_cons hlt,List.take_succ_cons,hce,<-h2]
  ·cases h
theorem Ki0 {ρ:Env}{t:TypeId}{cs:List CV}{vs:Array Value}{off:Nat}{x:AV}(h:Kh6 P t cs off=some x)(hcs:All2 (VC ρ) cs vs.toList)(w:World) :
  ∃ v,(part t vs off).run P w=.ok v w/\VR ρ x v:=by
 unfold Kh6 at h
 cases hb:Jd2 P t with
 | none=>rw [hb] at h;cases h
 | some b =>
  rw [hb] at h
  cases b with
  | true =>
   simp only at h
   cases hn:Jf5 P t with
   | none=>rw [hn] at h;cases h
   | some n =>
    rw [hn] at h
    simp only [Option.map_eq_some_iff] at h
    obtain ⟨cs',hl,rfl⟩:=h
    obtain ⟨_,he⟩:=Ks4 hl
    refine ⟨.agg (vs.extract off (off+n)),?_,_,rfl,?_⟩
    ·simp [part,Jx4 P hb,Je7 P hn]
    ·subst he
     have:=(hcs.drop off).take n
     simpa [Array.toList_extract,List.extract_eq_take_drop] using this
  | false =>
   simp only [Option.map_eq_some_iff] at h
   obtain ⟨c,hc,rfl⟩:=h
   obtain ⟨v,hv,hr⟩:=hcs.get hc
   refine ⟨v,?_,hr⟩
   have hv':vs[off]?=some v:=by simpa using hv
   simp [part,Jx4 P hb,hv']
def Kp9 (place:Nat->Option (Nat × Nat))(cells:List CV):List (Nat × AV)->Option (List CV)
 | []=>some cells
 | (i,x)::rest =>
  match place i with
  | some (off,size)=>match x.cells with
   | some cs=>if cs.length=size/\off+cs.length<=cells.length then Kp9 place (setL cells off cs) rest else none
   | none=>none
  | none=>none
theorem Ks8 (off:Nat):∀ (l:List Value) (j:Nat) (cs:Array Value),((l.zipIdx j).foldl (fun cs (c,j)=>cs.setIfInBounds (off+j) c) cs).toList=setL cs.toList (off+j) l
 | [],_,_=>rfl
 | v::l,j,cs=>by
  simp only [List.zipIdx_cons,List.foldl_cons,setL]
  rw [Ks8 off l (j+1)]
  simp [Nat.add_assoc]
theorem Jz2 {ρ:Env}{place:Nat->Option (Nat × Nat)}:∀ {parts:List (Nat × AV)} {vparts:List (Nat × Value)} {cells:List CV} {vcells:Array Value} {out:List CV},
  All2 (fun (p:Nat × AV) (q:Nat × Value)=>p.1=q.1/\VR ρ p.2 q.2) parts vparts->All2 (VC ρ) cells vcells.toList->Kp9 place cells parts=some out ->
  ∃ vout:Array Value,Instr.fill place vcells vparts=some vout/\All2 (VC ρ) out vout.toList
 | [],[],cells,vcells,out,_,hc,h=>by
  simp [Kp9] at h;subst h
  exact ⟨vcells,rfl,hc⟩
 | (i,x)::parts,(j,v)::vparts,cells,vcells,out,hp,hc,h=>by
  obtain ⟨⟨hij,hx⟩,hp⟩:=hp
  simp only at hij hx
  subst hij
  simp only [Kp9] at h
  split at h
  ·rename_i off size hpl
   split at h
   ·rename_i cs hcs
    split at h
    ·rename_i hsz
     have hvc:=hx.cells hcs
     have hl:=hvc.length
     have hcl:=hc.length
     simp at hl hcl
     have hset:All2 (VC ρ) (setL cells off cs) (v.cells.zipIdx.foldl (fun cs (c,j)=>cs.setIfInBounds (off+j) c) vcells).toList:=by
      rw [<-Array.foldl_toList,Array.toList_zipIdx,Ks8 off v.cells.toList 0 vcells]
      exact hc.setL _ hvc
     obtain ⟨vout,h1,h2⟩:=Jz2 hp hset h
     refine ⟨vout,?_,h2⟩
     simp only [Instr.fill,hpl]
     rw [if_neg]
     ·exact h1
     ·simp only [Bool.or_eq_true,decide_eq_true_eq,not_or]
      omega
    ·cases h
   ·cases h
  ·cases h
 | [],_::_,_,_,_,h,_,_=>h.elim
 | _::_,[],_,_,_,h,_,_=>h.elim
def Qp3 (t:TypeId)(parts:List (Nat × AV)):Option AV :=
 match Jc0 P t,P.underlying t with
 | some z,some (.struct fields) =>
  if fields.toList.all (fun f=>(Jf5 P f.type).isSome) then
   (Kp9 (fun i=>(fields[i]?).bind fun f=>(Jf5 P f.type).map fun n=>(f.offset,n)) (z.cells.toList.map Jj4) parts).map .agg
  else none
 | some z,some (.array _ elem)=>match Jf5 P elem with
  | some size=>(Kp9 (fun i=>some (i*size,size)) (z.cells.toList.map Jj4) parts).map .agg
  | none=>none
 | _,_=>none
theorem Kn2 (w:World):∀ (l:List Field),l.all (fun f=>(Jf5 P f.type).isSome)=true ->
  ((l.mapM fun f=>(sizeOf f.type >>=fun n=>pure (f.offset,n)):Sem (List (Nat × Nat)))).run P w=.ok (l.map fun f=>(f.offset,(Jf5 P f.type).getD 0)) w
 | [],_=>by simp
 | f::l,h=>by
  simp only [List.all_cons,Bool.and_eq_true] at h
  obtain ⟨n,hn⟩:=Option.isSome_iff_exists.1 h.1
  simp only [List.mapM_cons,Sem.run_bind,Je7 P hn,Kn2 w l h.2,Result.andThen_ok,Sem.run_pure,List.map_cons,hn,Option.getD_some]
theorem Qb4 (w:World)(fields:Array Field)(h:fields.toList.all (fun f=>(Jf5 P f.type).isSome)=true) :
  ((fields.mapM fun f=>(sizeOf f.type >>=fun n=>pure (f.offset,n)):Sem (Array (Nat × Nat)))).run P w=.ok (fields.toList.map fun f=>(f.offset,(Jf5 P f.type).getD 0)).toArray w:=by
 obtain ⟨l⟩:=fields
 simp only [List.mapM_toArray,Sem.run_map]
 rw [Kn2 P w l h]
 rfl
theorem Qz6 {ρ:Env}{t:TypeId}{parts:List (Nat × AV)}{vparts:List (Nat × Value)}{x:AV}(h:Qp3 P t parts=some x)
  (hp:All2 (fun (p:Nat × AV) (q:Nat × Value)=>p.1=q.1/\VR ρ p.2 q.2) parts vparts) (w:World) :
  ∃ v,(Instr.build t vparts.toArray).run P w=.ok v w/\VR ρ x v:=by
 unfold Qp3 at h
 split at h
 ·rename_i z fields hz hu
  split at h
  ·rename_i hall
   simp only [Option.map_eq_some_iff] at h
   obtain ⟨out,hf,rfl⟩:=h
   obtain ⟨vout,h1,h2⟩:=Jz2 (vcells:=z.cells) hp (Jn9 ρ _) hf
   refine ⟨.agg vout,?_,vout,rfl,h2⟩
   have hm:=Qb4 P w fields hall
   simp only [Instr.build,Sem.run_bind,Jh6 P hz,run_underlying hu,Result.andThen_ok]
   rw [hm,Result.andThen_ok]
   have hpl:(fun i:Nat=>((fields.toList.map fun f=>(f.offset,(Jf5 P f.type).getD 0)).toArray)[i]?)=fun i=>(fields[i]?).bind fun f=>(Jf5 P f.type).map fun n=>(f.offset,n):=by
    funext i
    simp only [List.getElem?_toArray,List.getElem?_map,Array.getElem?_toList]
    cases hfi:fields[i]? with
    | none=>rfl
    | some f =>
     have hmem:f ∈ fields.toList:=by
      have:=Array.mem_of_getElem? hfi
      simpa using this
     obtain ⟨n,hn⟩:=Option.isSome_iff_exists.1 (List.all_eq_true.1 hall f hmem)
     simp [hn]
   rw [hpl,h1]
   rfl
  ·cases h
 ·rename_i z n elem hz hu
  split at h
  ·rename_i size hs
   simp only [Option.map_eq_some_iff] at h
   obtain ⟨out,hf,rfl⟩:=h
   obtain ⟨vout,h1,h2⟩:=Jz2 (vcells:=z.cells) hp (Jn9 ρ _) hf
   refine ⟨.agg vout,?_,vout,rfl,h2⟩
   simp only [Instr.build,Sem.run_bind,Jh6 P hz,run_underlying hu,Je7 P hs,Result.andThen_ok,h1]
   rfl
  ·cases h
 ·cases h
end
section
variable (P:Program)
def Jp1 (eq:TypeId->AV->AV->Option Bool)(xs ys:List CV):List (TypeId × Nat)->Option Bool
 | []=>some true
 | (t,off)::r =>
  match Kh6 P t xs off,Kh6 P t ys off with
  | some a,some b=>match eq t a b,Jp1 eq xs ys r with
   | some p,some q=>some (p&&q)
   | _,_=>none
  | _,_=>none
def eqV:Nat->TypeId->AV->AV->Option Bool
 | 0,_,_,_=>none
 | d+1,t,x,y =>
  match P.underlying t,x,y with
  | some .bool,.one (.bool a),.one (.bool b)=>some (a ==b)
  | some (.int _),.one (.int k a),.one (.int k' b)=>if k=k' then some (a ==b) else none
  | some .string,.one (.str a),.one (.str b)=>some (a.toList ==b.toList)
  | some (.struct fs),.agg xs,.agg ys =>
   if P.stoodInHeld t = false ∧ (fs.toList.all fun f => f.name != "_") = true then Jp1 P (eqV d) xs ys (fs.toList.map fun f => (f.type, f.offset)) else none
  | some (.array n e),.agg xs,.agg ys=>match Jf5 P e with
   | some k=>Jp1 P (eqV d) xs ys ((List.range' 0 n).map fun i=>(e,i*k))
   | none=>none
  | _,_,_=>none
def eqL (d:Nat)(xs ys:Array Value):List (TypeId × Nat)->Sem Bool
 | []=>pure true
 | (t,off)::r=>do
  let a <-part t xs off
  let b <-part t ys off
  let e <-Op.equalIn d t a b
  if (!e)=true then pure false else eqL d xs ys r
theorem Kg8 (d : Nat) (xs ys : Array Value) : ∀ fs : List Field, (fs.all fun f => f.name != "_") = true → Op.eqFields d xs ys fs = eqL d xs ys (fs.map fun f => (f.type, f.offset))
 | [],_=>rfl
 | f::fs,h=>by
  simp only [List.all_cons,Bool.and_eq_true,bne_iff_ne] at h
  simp only [Op.eqFields,List.map_cons,eqL,if_pos h.1,Kg8 d xs ys fs h.2]
theorem Ke9 (d:Nat)(t e:TypeId)(n k:Nat)(xs ys:Array Value)(ht:P.underlying t=some (.array n e))(hk:Jf5 P e=some k)(w:World) :
  (Op.equalIn (d+1) t (.agg xs) (.agg ys)).run P w=(eqL d xs ys ((List.range' 0 n).map fun i=>(e,i*k))).run P w:=by
 simp only [Op.equalIn,Sem.run_bind,run_underlying ht,Result.andThen_ok,Je7 P hk]
 rw [Std.Legacy.Range.forIn_eq_forIn_range']
 simp only [Std.Legacy.Range.size,Nat.sub_zero,Nat.add_sub_cancel,Nat.div_one]
 generalize List.range' 0 n=l
 induction l generalizing w with
 | nil=>simp [eqL]
 | cons i l ih =>
  simp only [List.forIn_cons,List.map_cons,eqL,Sem.run_bind,Sem.run_ite]
  generalize (part e xs (i*k)).run P w=r1
  cases r1 with
  | ok a w1 =>
   simp only [Result.andThen_ok]
   generalize (part e ys (i*k)).run P w1=r2
   cases r2 with
   | ok b w2 =>
    simp only [Result.andThen_ok]
    generalize (Op.equalIn d e a b).run P w2=r3
    cases r3 with
    | ok r w3 =>
     cases r
     ·simp only [Result.andThen_ok,Bool.not_false,if_true,Sem.run_pure]
     ·simp only [Result.andThen_ok,Bool.not_true,Bool.false_eq_true,if_false,Sem.run_pure]
      exact ih w3
    | halt x w3=>simp [Result.andThen]
   | halt x w2=>simp [Result.andThen]
  | halt x w1=>simp [Result.andThen]
theorem Qf0 {ρ:Env}{d:Nat}{eq:TypeId->AV->AV->Option Bool}(heq:∀ (t:TypeId) (x y:AV) (u v:Value) (b:Bool) (w:World),eq t x y=some b->VR ρ x u->VR ρ y v->(Op.equalIn d t u v).run P w=.ok b w)
  {xs ys:List CV} {us vs:Array Value} (hx:All2 (VC ρ) xs us.toList) (hy:All2 (VC ρ) ys vs.toList) (w:World) :
  ∀ {l:List (TypeId × Nat)} {b:Bool},Jp1 P eq xs ys l=some b->(eqL d us vs l).run P w=.ok b w
 | [],b,h=>by simp [Jp1] at h;subst h;simp [eqL]
 | (t,off)::r,b,h=>by
  simp only [Jp1] at h
  split at h
  ·rename_i a c ha hc
   split at h
   ·rename_i p q hp hq
    injection h with h
    subst h
    obtain ⟨u,hu,hu'⟩:=Ki0 P ha hx w
    obtain ⟨v,hv,hv'⟩:=Ki0 P hc hy w
    simp only [eqL,Sem.run_bind,hu,hv,Result.andThen_ok,heq t a c u v p w hp hu' hv',Sem.run_ite]
    cases p with
    | false=>simp
    | true=>simpa using Qf0 heq hx hy w hq
   ·cases h
  ·cases h
theorem Ku4 {ρ:Env}:∀ (d:Nat) (t:TypeId) (x y:AV) (u v:Value) (b:Bool) (w:World),eqV P d t x y=some b->VR ρ x u->VR ρ y v->(Op.equalIn d t u v).run P w=.ok b w
 | 0,_,_,_,_,_,_,_,h,_,_=>by simp [eqV] at h
 | d+1,t,x,y,u,v,b,w,h,hu,hv=>by
  simp only [eqV] at h
  split at h
  ·rename_i p q ht
   have e1:u=_:=hu
   have e2:v=_:=hv
   subst e1;subst e2
   injection h with h;subst h
   exact run_equalIn_bool w d t p q ht
  ·rename_i k0 k p k' q ht
   have e1:u=_:=hu
   have e2:v=_:=hv
   subst e1;subst e2
   split at h
   ·rename_i hk
    subst hk
    injection h with h;subst h
    exact run_equalIn_int w d t k k0 p q ht
   ·cases h
  ·rename_i p q ht
   have e1:u=_:=hu
   have e2:v=_:=hv
   subst e1;subst e2
   injection h with h;subst h
   exact run_equalIn_string w d t p q ht
  ·rename_i fs xs ys ht
   obtain ⟨us,rfl,hx⟩:=hu
   obtain ⟨vs,rfl,hy⟩:=hv
   split at h
   ·rename_i hc
    have hf:P.fieldsOf t=fs:=by unfold Program.fieldsOf;rw [ht]
    rw [run_equalIn_struct w d t us vs (by rw [hf];exact ht) hc.1,hf,Kg8 d us vs _ hc.2]
    exact Qf0 P (fun t x y u v b w=>Ku4 d t x y u v b w) hx hy w h
   ·cases h
  ·rename_i n e xs ys ht
   obtain ⟨us,rfl,hx⟩:=hu
   obtain ⟨vs,rfl,hy⟩:=hv
   split at h
   ·rename_i k hk
    rw [Ke9 P d t e n k us vs ht hk]
    exact Qf0 P (fun t x y u v b w=>Ku4 d t x y u v b w) hx hy w h
   ·cases h
  ·cases h
def eqA (t:TypeId):AV->AV->Option Bool
 | .one (.bool a),.one (.bool b)=>match P.underlying t with|some .bool=>some (a ==b)|_=>none
 | .agg xs,.agg ys=>if P.eqGuardType P.depth t=false then eqV P 10000 t (.agg xs) (.agg ys) else none
 | .one .nils,.one .nils=>match P.underlying t with|some (.slice _)=>some true|_=>none
 | .one (.sl _ _ _ len),.one .nils=>match P.underlying t with|some (.slice _)=>if 0<len then some false else none|_=>none
 | .one .nilp,.one .nilp=>match P.underlying t with|some (.pointer _)=>some true|_=>none
 | .one (.ptr r v o),.one (.ptr r' v' o')=>match P.underlying t with|some (.pointer e)=>if r=r'/\v=v'/\o=o'/\(P.info? e).isSome=true then some true else none|_=>none
 | .one (.ptr _ _ _),.one .nilp=>match P.underlying t with|some (.pointer _)=>some false|_=>none
 | .one .nilf,.one .nilf=>match P.underlying t with|some (.func _ _ _)=>some true|_=>none
 | .one (.fn _ _),.one .nilf=>match P.underlying t with|some (.func _ _ _)=>some false|_=>none
 | .one .nilm,.one .nilm=>match P.underlying t with|some (.map _ _)=>some true|_=>none
 | .one (.mp _ _),.one .nilm=>match P.underlying t with|some (.map _ _)=>some false|_=>none
 | .one (.ifj _),.one .nili=>match P.underlying t with|some (.interface _)=>some false|_=>none
 | .one (.gp _ _),.one .nilp=>match P.underlying t with|some (.pointer _)=>some false|_=>none
 | _,_=>none
def intA (op:BinOp)(k:IntKind)(a b:Int):Option AV :=
 match op with
 | .add=>some (.one (.int k (k.wrap (a+b))))
 | .sub=>some (.one (.int k (k.wrap (a - b))))
 | .mul=>some (.one (.int k (k.wrap (a*b))))
 | .quo=>if b=0 then none else some (.one (.int k (k.wrap (a.tdiv b))))
 | .rem=>if b=0 then none else some (.one (.int k (a.tmod b)))
 | .and=>some (.one (.int k (bits .and k a b)))
 | .or=>some (.one (.int k (bits .or k a b)))
 | .xor=>some (.one (.int k (bits .xor k a b)))
 | .andNot=>some (.one (.int k (bits .andNot k a b)))
 | .lss=>some (.one (.bool (decide (a<b))))
 | .leq=>some (.one (.bool (decide (a<=b))))
 | .gtr=>some (.one (.bool (decide (b<a))))
 | .geq=>some (.one (.bool (decide (b<=a))))
 | .eql=>some (.one (.bool (a ==b)))
 | .neq=>some (.one (.bool (a !=b)))
 | _=>none
def shA (op:BinOp)(k:IntKind)(a b:Int):Option AV :=
 if b<0 then none else
 match op with
 | .shl=>some (.one (.int k (k.wrap (a*2 ^ (min b.toNat k.bits)))))
 | .shr=>some (.one (.int k (a.fdiv (2 ^ (min b.toNat k.bits)))))
 | _=>none
def strA (op:BinOp)(a b:ByteArray):Option AV :=
 match op with
 | .add=>if a.size+b.size<=9223372036854775807 then some (.one (.str (a++b))) else none
 | .lss=>some (.one (.bool (Op.bytesLess a.toList b.toList)))
 | .leq=>some (.one (.bool (Op.bytesLess a.toList b.toList || a.toList ==b.toList)))
 | .gtr=>some (.one (.bool !(Op.bytesLess a.toList b.toList || a.toList ==b.toList)))
 | .geq=>some (.one (.bool !(Op.bytesLess a.toList b.toList)))
 | .eql=>some (.one (.bool (a.toList ==b.toList)))
 | .neq=>some (.one (.bool !(a.toList ==b.toList)))
 | _=>none
def Kw5:BinOp->Bool
 | .shl=>true
 | .shr=>true
 | _=>false
def binA (op:BinOp)(t:TypeId)(x y:AV):Option AV :=
 match x,y with
 | .one (.int k a),.one (.int k' b)=>if Kw5 op then shA op k a b else if k=k' then intA op k a b else none
 | .one (.str a),.one (.str b)=>strA op a b
 | x,y=>match op with
  | .eql=>(eqA P t x y).map fun b=>.one (.bool b)
  | .neq=>(eqA P t x y).map fun b=>.one (.bool !b)
  | _=>none
theorem Vn3 {ρ:Env}{op:BinOp}{k:IntKind}{a b:Int}{z:AV}(hs:Kw5 op=false)(h:intA op k a b=some z)(t:TypeId)(o1 o2:Operand)(w:World) :
    ∃ r,((do eqGuard op t o1 o2 (.int k a) (.int k b);binOp op t (.int k a) (.int k b)):Sem Value).run P w=.ok r w/\VR ρ z r:=by
  cases op<;>simp only [Kw5] at hs<;>simp only [intA] at h<;>first
    | (injection h with h;subst h;refine ⟨_,?_,rfl⟩;simp only [eqGuard_at_int,binOp_add,binOp_sub,binOp_mul,binOp_and,binOp_or,binOp_xor,binOp_andNot,binOp_eql,binOp_neq,binOp_lss,binOp_leq,binOp_gtr,binOp_geq,intBits_and,intBits_or,intBits_xor,intBits_andNot,Sem.run_bind,Sem.run_pure,Result.andThen_ok,Op.intArith,gt_iff_lt,ge_iff_le];done)
    | (split at h
       · cases h
       · rename_i hb
         injection h with h;subst h;exact ⟨_,by simp only [eqGuard_at_int,binOp_quo,binOp_rem,Sem.run_bind,Sem.run_pure,Result.andThen_ok,Op.intDiv,if_neg hb],rfl⟩)
    | cases h
    | cases hs
theorem Xe6 {ρ:Env}{op:BinOp}{k k':IntKind}{a b:Int}{z:AV}(h:shA op k a b=some z)(t:TypeId)(o1 o2:Operand)(w:World) :
  ∃ r,((do eqGuard op t o1 o2 (.int k a) (.int k' b);binOp op t (.int k a) (.int k' b)):Sem Value).run P w=.ok r w/\VR ρ z r:=by
 unfold shA at h
 split at h
 ·cases h
 ·rename_i hb
  split at h
  ·injection h with h;subst h;exact ⟨_,by simp only [eqGuard_at_int,binOp_shl,Sem.run_bind,Sem.run_pure,Result.andThen_ok,Op.shift,if_neg hb],rfl⟩
  ·injection h with h;subst h;exact ⟨_,by simp only [eqGuard_at_int,binOp_shr,Sem.run_bind,Sem.run_pure,Result.andThen_ok,Op.shift,if_neg hb],rfl⟩
  ·cases h
theorem Vm9 {ρ:Env}{op:BinOp}{a b:ByteArray}{z:AV}(h:strA op a b=some z)(t:TypeId)(o1 o2:Operand)(w:World) :
    ∃ r,((do eqGuard op t o1 o2 (.string a) (.string b);binOp op t (.string a) (.string b)):Sem Value).run P w=.ok r w/\VR ρ z r:=by
  have hb:binOp op t (.string a) (.string b)=Op.stringOp op a b:=by cases op<;>rfl
  simp only [eqGuard_at_string,hb,Sem.run_bind,Sem.run_pure,Result.andThen_ok]
  cases op<;>simp only [strA] at h<;>first
    | (split at h
       · rename_i hsz
         injection h with h;subst h
         refine ⟨_,?_,rfl⟩
         have:¬(((a.size+b.size:Nat):Int) > IntKind.i64.max):=by rw [IntKind.max_i64];omega
         simp only [Op.stringOp,if_neg this,Sem.run_pure]
       · cases h)
    | (injection h with h;subst h;exact ⟨_,by simp only [Op.stringOp,Sem.run_pure],rfl⟩)
    | cases h
theorem Jn2 {t:TypeId}{u v:Value}{b:Bool}{o1 o2:Operand}{w:World}(he:∀ op,(op=.eql\/op=.neq)->(eqGuard op t o1 o2 u v).run P w=.ok () w)
  (h1:binOp .eql t u v=(Op.equal t u v >>=fun b=>pure (.bool b))) (h2:binOp .neq t u v=(Op.equal t u v >>=fun b=>pure (.bool !b)))
  (hr:∀ d,(Op.equalIn (d+1) t u v).run P w=.ok b w) :
  ((do eqGuard .eql t o1 o2 u v;binOp .eql t u v):Sem Value).run P w=.ok (.bool b) w/\((do eqGuard .neq t o1 o2 u v;binOp .neq t u v):Sem Value).run P w=.ok (.bool !b) w:=by
 have hq:(Op.equal t u v).run P w=.ok b w:=hr 9999
 constructor
 ·simp only [Sem.run_bind,he _ (.inl rfl),Result.andThen_ok,h1,hq,Sem.run_pure]
 ·simp only [Sem.run_bind,he _ (.inr rfl),Result.andThen_ok,h2,hq,Sem.run_pure]
theorem Qz1 {ρ:Env}{t:TypeId}{x y:AV}{u v:Value}{b:Bool}(h:eqA P t x y=some b)(hx:VR ρ x u)(hy:VR ρ y v)(o1 o2:Operand)(w:World) :
  ((do eqGuard .eql t o1 o2 u v;binOp .eql t u v):Sem Value).run P w=.ok (.bool b) w/\((do eqGuard .neq t o1 o2 u v;binOp .neq t u v):Sem Value).run P w=.ok (.bool !b) w:=by
 unfold eqA at h
 split at h
 ·rename_i a c
  have e1:u=_:=hx
  have e2:v=_:=hy
  subst e1;subst e2
  split at h
  ·rename_i ht
   injection h with h;subst h
   exact Jn2 P (fun op h=>by rw [eqGuard_at_bool];rfl) rfl rfl (fun d=>run_equalIn_bool w d t a c ht)
  ·cases h
 ·rename_i xs ys
  split at h
  ·rename_i hg
   have hr:=Ku4 P 10000 t (.agg xs) (.agg ys) u v b w h hx hy
   obtain ⟨us,rfl,_⟩:=hx
   obtain ⟨vs,rfl,_⟩:=hy
   constructor
   ·simp only [Sem.run_bind,run_eqGuard_agg w .eql t o1 o2 us vs hg,Result.andThen_ok,run_eql_struct,hr]
   ·simp only [Sem.run_bind,run_eqGuard_agg w .neq t o1 o2 us vs hg,Result.andThen_ok,run_neq_struct,hr]
  ·cases h
 ·have e1:u=_:=hx
  have e2:v=_:=hy
  subst e1;subst e2
  split at h
  ·rename_i ht
   injection h with h;subst h
   exact Jn2 P (fun op h=>by rw [eqGuard_at_slice];rfl) rfl rfl (fun d=>by simp [Op.equalIn,run_underlying ht])
  ·cases h
 ·have e2:v=_:=hy
  subst e2
  obtain ⟨A,c0,B,c,_,rfl,_,hlen,_⟩:=hx
  split at h
  ·rename_i ht
   split at h
   ·rename_i hl
    injection h with h;subst h
    obtain ⟨a,_,rfl⟩:=hlen hl
    exact Jn2 P (fun op h=>by rw [eqGuard_at_slice];rfl) rfl rfl (fun d=>by simp [Op.equalIn,run_underlying ht])
   ·cases h
  ·cases h
 ·have e1:u=_:=hx
  have e2:v=_:=hy
  subst e1;subst e2
  split at h
  ·rename_i ht
   injection h with h;subst h
   exact Jn2 P (fun op h=>by rw [eqGuard_at_pointer];rfl) rfl rfl (fun d=>by simp [Op.equalIn,run_underlying ht])
  ·cases h
 ·rename_i r ver o r' ver' o'
  obtain ⟨a,k,h1,rfl⟩:=hx
  obtain ⟨a',k',h2,rfl⟩:=hy
  split at h
  ·rename_i e ht
   split at h
   ·rename_i hc
    obtain ⟨rfl,rfl,rfl,hi⟩:=hc
    rw [h1] at h2;injection h2 with h2;injection h2 with h2 _;injection h2 with h2;subst h2
    injection h with h;subst h
    obtain ⟨j,hj⟩:=Option.isSome_iff_exists.1 hi
    exact Jn2 P (fun op h=>by rw [eqGuard_at_pointer];rfl) rfl rfl (fun d=>by simp [Op.equalIn,run_underlying ht,sizeOf,typeInfo,hj,run_sameAddr_same])
   ·cases h
  ·cases h
 ·have e2:v=_:=hy
  subst e2
  obtain ⟨a,k,_,rfl⟩:=hx
  split at h
  ·rename_i ht
   injection h with h;subst h
   exact Jn2 P (fun op h=>by rw [eqGuard_at_pointer];rfl) rfl rfl (fun d=>by simp [Op.equalIn,run_underlying ht])
  ·cases h
 ·have e1:u=_:=hx
  have e2:v=_:=hy
  subst e1;subst e2
  split at h
  ·rename_i ht
   injection h with h;subst h
   exact Jn2 P (fun op h=>by rw [eqGuard_at_nilFunc];rfl) rfl rfl (fun d=>by simp [Op.equalIn,run_underlying ht])
  ·cases h
 ·have e2:v=_:=hy
  subst e2
  obtain ⟨vs,rfl,_⟩:=hx
  split at h
  ·rename_i ht
   injection h with h;subst h
   exact Jn2 P (fun op h=>by rw [eqGuard_at_func];rfl) rfl rfl (fun d=>by simp [Op.equalIn,run_underlying ht])
  ·cases h
 ·have e1:u=_:=hx
  have e2:v=_:=hy
  subst e1;subst e2
  split at h
  ·rename_i ht
   injection h with h;subst h
   exact Jn2 P (fun op h=>by rcases h with rfl|rfl<;>simp [eqGuard]) rfl rfl (fun d=>by simp [Op.equalIn,run_underlying ht])
  ·cases h
 ·have e2:v=_:=hy
  subst e2
  obtain ⟨n,k,_,rfl⟩:=hx
  split at h
  ·rename_i ht
   injection h with h;subst h
   exact Jn2 P (fun op h=>by rcases h with rfl|rfl<;>simp [eqGuard]) rfl rfl (fun d=>by simp [Op.equalIn,run_underlying ht])
  ·cases h
 ·have e2:v=_:=hy
  subst e2
  obtain ⟨x,rfl⟩:=hx
  split at h
  ·rename_i ht
   injection h with h;subst h
   exact Jn2 P (fun op h=>by rcases h with rfl|rfl<;>simp [eqGuard]) rfl rfl (fun d=>by simp [Op.equalIn,run_underlying ht])
  ·cases h
 ·have e1:u=_:=hx
  have e2:v=_:=hy
  subst e1;subst e2
  split at h
  ·rename_i ht
   injection h with h;subst h
   exact Jn2 P (fun op h=>by rw [eqGuard_at_pointer];rfl) rfl rfl (fun d=>by simp [Op.equalIn,run_underlying ht])
  ·cases h
 ·cases h
def binN (P:Program)(op:BinOp)(t:TypeId)(y:Operand)(u v:AV):Option AV :=
 match u,v with
 | .one .nili,.one .nili=>match y,P.underlying t,op with
  | .const _,some (.interface _),.eql=>some (.one (.bool true))
  | .const _,some (.interface _),.neq=>some (.one (.bool false))
  | _,_,_=>none
 | u,v=>binA P op t u v
theorem Vn6 {ρ:Env}{op:BinOp}{t:TypeId}{x y:AV}{u v:Value}{z:AV}(h:binA P op t x y=some z)(hx:VR ρ x u)(hy:VR ρ y v)(o1 o2:Operand)(w:World) :
  ∃ r,((do eqGuard op t o1 o2 u v;binOp op t u v):Sem Value).run P w=.ok r w/\VR ρ z r:=by
 unfold binA at h
 split at h
 ·rename_i k a k' b
  have e1:u=_:=hx
  have e2:v=_:=hy
  subst e1;subst e2
  split at h
  ·exact Xe6 P h t o1 o2 w
  ·rename_i hs
   split at h
   ·rename_i hk;subst hk
    exact Vn3 P (by simpa using hs) h t o1 o2 w
   ·cases h
 ·rename_i a b
  have e1:u=_:=hx
  have e2:v=_:=hy
  subst e1;subst e2
  exact Vm9 P h t o1 o2 w
 ·split at h
  ·simp only [Option.map_eq_some_iff] at h
   obtain ⟨b,hb,rfl⟩:=h
   exact ⟨_,(Qz1 P hb hx hy o1 o2 w).1,rfl⟩
  ·simp only [Option.map_eq_some_iff] at h
   obtain ⟨b,hb,rfl⟩:=h
   exact ⟨_,(Qz1 P hb hx hy o1 o2 w).2,rfl⟩
  ·cases h
theorem Vn5 {ρ:Env}{op:BinOp}{t:TypeId}{x y:AV}{u v:Value}{z:AV}{o2:Operand}(h:binN P op t o2 x y=some z)(hx:VR ρ x u)(hy:VR ρ y v)(o1:Operand)(w:World) :
  ∃ r,((do eqGuard op t o1 o2 u v;binOp op t u v):Sem Value).run P w=.ok r w/\VR ρ z r:=by
 unfold binN at h
 split at h
 ·have e1:u=_:=hx
  have e2:v=_:=hy
  subst e1;subst e2
  split at h
  ·rename_i c ms ht
   injection h with h;subst h
   exact ⟨_,(Jn2 P (b:=true) (fun op h=>by rcases h with rfl|rfl<;>simp [eqGuard]) rfl rfl (fun d=>by simp [Op.equalIn,run_underlying ht])).1,rfl⟩
  ·rename_i c ms ht
   injection h with h;subst h
   exact ⟨_,(Jn2 P (b:=true) (fun op h=>by rcases h with rfl|rfl<;>simp [eqGuard]) rfl rfl (fun d=>by simp [Op.equalIn,run_underlying ht])).2,rfl⟩
  ·cases h
 ·exact Vn6 P h hx hy o1 o2 w
end
section
variable (P:Program)
def selA (c:Bool)(x y:AV):AV :=
 match x,y with
 | .one (.bool p),.one (.bool q)=>.one (.bool (bif c then p else q))
 | x,y=>bif c then x else y
theorem Xr0 {ρ:Env}{c:Bool}{x y:AV}{u v:Value}(hx:VR ρ x u)(hy:VR ρ y v):VR ρ (selA c x y) (if c=true then u else v):=by
 unfold selA
 split
 ·have e1:u=_:=hx
  have e2:v=_:=hy
  subst e1;subst e2
  cases c<;>rfl
 ·cases c
  ·exact hy
  ·exact hx
def gB (mem:Ja1)(g:Nat):Option (List CV):=(mem.find? fun b=>b.kind.tag ==2&&b.ver ==g+1&&!b.cells.isEmpty).map (·.cells)
def Jt3 (t:TypeId)(x:AV)(mem:Ja1):Option AV :=
 match x with
 | .one (.ptr r ver off)=>match mem[r]? with
  | some b=>if ver=b.ver then Kh6 P t b.cells off else none
  | none=>none
 | .one (.gp g off)=>match gB mem g with
  | some cs=>Kh6 P t cs off
  | none=>none
 | _=>none
theorem Kk1 {ρ:Env}{w:World}{r:Nat}{b:Blk}(hbk:BlkR ρ w r b){a:Addr}{k:Nat}(ha:ρ r b.ver=some (some a,k)){t:TypeId}{z:AV}{off:Nat}(h:Kh6 P t b.cells off=some z) :
  ∃ v,(Instr.loadAt t (.pointer (some (a.add off)))).run P w=.ok v w/\VR ρ z v:=by
 unfold Kh6 at h
 split at h
 ·rename_i hagg
  split at h
  ·rename_i n hn
   simp only [Option.map_eq_some_iff] at h
   obtain ⟨cs,hl,rfl⟩:=h
   obtain ⟨vs,hrun,hall⟩:=Kk2 (P:=P) hbk ha off n 0 cs #[] hl
   refine ⟨.agg vs.toArray,?_,_,rfl,by simpa using hall⟩
   simp only [Array.empty_append] at hrun
   simp only [Instr.loadAt,Instr.sureAddr,loadVar,Sem.run_bind,Sem.run_pure,Result.andThen_ok,Jx4 P hagg,if_true,Je7 P hn,loadCells,hrun]
  ·cases h
 ·rename_i hagg
  simp only [Option.map_eq_some_iff] at h
  obtain ⟨c,hc,rfl⟩:=h
  obtain ⟨v,hv,hr⟩:=Ki9 hbk ha hc
  refine ⟨v,?_,hr⟩
  simp only [Instr.loadAt,Instr.sureAddr,loadVar,Sem.run_bind,Sem.run_pure,Result.andThen_ok,Jx4 P hagg,Bool.false_eq_true,if_false,run_load,hv]
 ·cases h
theorem Vt2 {ρ:Env}{mem:Ja1}{w:World}(hm:RepM ρ mem w){g:Nat}{cs:List CV}(h:gB mem g=some cs):∃ r b k,mem[r]?=some b/\b.cells=cs/\BlkR ρ w r b/\ρ r b.ver=some (some ⟨g,0,none⟩,k):=by
 unfold gB at h
 simp only [Option.map_eq_some_iff] at h
 obtain ⟨b,hf,rfl⟩:=h
 have hp:=List.find?_some hf
 simp only [Bool.and_eq_true,beq_iff_eq,Bool.not_eq_true',List.isEmpty_eq_false_iff] at hp
 obtain ⟨r,hr⟩:=List.getElem?_of_mem (List.mem_of_find?_eq_some hf)
 have hbk:=hm.blk r b hr
 have hbk':=hbk
 unfold BlkR at hbk
 rw [BK.tag_ro.1 hp.1.1] at hbk
 obtain ⟨A,k,h1,h2⟩:=hbk
 obtain ⟨a,ha,_,hg,_⟩:=h2 hp.2
 have:=(hg (by omega)).1
 rw [hp.1.2,Nat.add_sub_cancel] at this
 subst ha;subst this
 exact ⟨r,b,k,hr,rfl,hbk',h1⟩
theorem Kz7 {ρ:Env}{mem:Ja1}{w:World}(hm:RepM ρ mem w){t:TypeId}{x z:AV}{u:Value}(h:Jt3 P t x mem=some z)(hx:VR ρ x u) :
  ∃ v,(Instr.loadAt t u).run P w=.ok v w/\VR ρ z v:=by
 unfold Jt3 at h
 split at h
 ·rename_i r ver off
  obtain ⟨a,k,ha,rfl⟩:=hx
  split at h
  ·rename_i b hb
   split at h
   ·rename_i hv
    subst hv
    exact Kk1 P (hm.blk r b hb) ha h
   ·cases h
  ·cases h
 ·rename_i g off
  have e:u=_:=hx
  subst e
  split at h
  ·rename_i cs hcs
   obtain ⟨r,b,k,_,rfl,hbk,ha⟩:=Vt2 hm hcs
   exact Kk1 P hbk ha h
  ·cases h
 ·cases h
def Jx2 (t:TypeId)(x y:AV)(mem:Ja1):Option Ja1 :=
 match x with
 | .one (.ptr r ver off)=>match mem[r]? with
  | some b=>match b.kind with
   | .ro=>none
   | _=>match y.cells,Jf5 P t with
    | some cs,some n=>if ver=b.ver/\cs.length=n/\off+cs.length<=b.cells.length/\cs.all CV.isVal=true then some (mem.set r { b with cells:=setL b.cells off cs }) else none
    | _,_=>none
  | none=>none
 | _=>none
theorem Kr9 {ρ:Env}{mem mem':Ja1}{w:World}(hm:RepM ρ mem w){t:TypeId}{x y:AV}{u v:Value}(h:Jx2 P t x y mem=some mem')(hx:VR ρ x u)(hy:VR ρ y v) :
  ∃ w',(Instr.storeAt t u v).run P w=.ok () w'/\RepM ρ mem' w'/\Step mem ρ w mem' ρ w':=by
 unfold Jx2 at h
 split at h
 ·rename_i r ver off
  obtain ⟨a,k,ha,rfl⟩:=hx
  split at h
  ·rename_i b hb
   split at h
   ·cases h
   ·rename_i hk
    split at h
    ·rename_i cs n hcs hn
     split at h
     ·rename_i hc
      obtain ⟨hv,hlen,hoff,hall⟩:=hc
      subst hv
      injection h with h
      subst h
      have hvs:=hy.cells hcs
      have hone:=All2.one_of_isVal hvs hall
      obtain ⟨w',hrun,h1,h2⟩:=hm.store (P:=P) hb hk ha hvs hoff hone
      refine ⟨w',?_,h1,h2⟩
      have hsz:¬(v.cells.size≠n):=by have:=hvs.length;simp at this;omega
      simp only [Instr.storeAt,Instr.sureAddr,storeVar,Sem.run_bind,Sem.run_pure,Result.andThen_ok,Je7 P hn,if_neg hsz,hrun]
     ·cases h
    ·cases h
  ·cases h
 ·cases h
def unA (op:UnOp)(x:AV):Option AV :=
 match op,x with
 | .neg,.one (.int k n)=>some (.one (.int k (k.wrap (0 - n))))
 | .xor,.one (.int k n)=>some (.one (.int k (bits .xor k (if k.signed then -1 else k.max) n)))
 | .not,.one (.bool b)=>some (.one (.bool !b))
 | _,_=>none
theorem Xe5 {ρ:Env}{op:UnOp}{x z:AV}{u:Value}(h:unA op x=some z)(hx:VR ρ x u)(w:World):∃ v,(Op.unary op u).run P w=.ok v w/\VR ρ z v:=by
 unfold unA at h
 split at h
 ·have e:u=_:=hx
  subst e
  injection h with h;subst h
  exact ⟨_,rfl,rfl⟩
 ·have e:u=_:=hx
  subst e
  injection h with h;subst h
  exact ⟨_,rfl,rfl⟩
 ·have e:u=_:=hx
  subst e
  injection h with h;subst h
  exact ⟨_,rfl,rfl⟩
 ·cases h
def Vv8 (src dst:TypeId)(x:AV):Option AV :=
 match P.underlying src,P.underlying dst,x with
 | some _,some (.int k),.one (.int _ n)=>some (.one (.int k (k.wrap n)))
 | some _,some .string,.one (.str s)=>some (.one (.str s))
 | _,_,_=>none
theorem Qz5 {ρ:Env}{src dst:TypeId}{x z:AV}{u:Value}(h:Vv8 P src dst x=some z)(hx:VR ρ x u)(w:World):∃ v,(convert src dst u).run P w=.ok v w/\VR ρ z v:=by
 unfold Vv8 at h
 split at h
 ·rename_i d k k' n hs hd
  have e:u=_:=hx
  subst e
  injection h with h;subst h
  exact ⟨_,by simp only [convert,Sem.run_bind,run_underlying hs,run_underlying hd,Result.andThen_ok,Conv.intToInt,Sem.run_pure],rfl⟩
 ·rename_i d s hs hd
  have e:u=_:=hx
  subst e
  injection h with h;subst h
  exact ⟨_,by simp only [convert,Sem.run_bind,run_underlying hs,run_underlying hd,Result.andThen_ok,Sem.run_pure],rfl⟩
 ·cases h
def Jz3 (s:TypeId)(x:AV)(f:Nat):Option AV :=
 match P.underlying s,x with
 | some (.struct fs),.one (.ptr r ver off)=>match fs[f]? with
  | some fl=>match Jf5 P fl.type with
   | some n=>if n=0 then none else some (.one (.ptr r ver (off+fl.offset)))
   | none=>none
  | none=>none
 | _,_=>none
theorem Kq7 {ρ:Env}{s:TypeId}{x z:AV}{f:Nat}{u:Value}(h:Jz3 P s x f=some z)(hx:VR ρ x u)(w:World):∃ v,(Instr.fieldAt s u f).run P w=.ok v w/\VR ρ z v:=by
 unfold Jz3 at h
 split at h
 ·rename_i fs r ver off hu
  obtain ⟨a,k,ha,rfl⟩:=hx
  split at h
  ·rename_i fl hf
   split at h
   ·rename_i n hn
    split at h
    ·cases h
    ·rename_i hn0
     injection h with h;subst h
     refine ⟨_,?_,a,k,ha,rfl⟩
     simp only [Instr.fieldAt,Sem.run_bind,run_underlying hu,Result.andThen_ok,hf,Instr.sureAddr,Sem.run_pure,fieldPlace,Je7 P hn,if_neg hn0,Jg3]
   ·cases h
  ·cases h
 ·cases h
def Qo3 (t:TypeId)(x:AV)(f:Nat):Option AV :=
 match P.underlying t,x with
 | some (.struct fs),.agg cs=>match fs[f]? with
  | some fl=>Kh6 P fl.type cs fl.offset
  | none=>none
 | _,_=>none
theorem Qr3 {ρ:Env}{t:TypeId}{x z:AV}{f:Nat}{u:Value}(h:Qo3 P t x f=some z)(hx:VR ρ x u)(w:World):∃ v,(Instr.field t u f).run P w=.ok v w/\VR ρ z v:=by
 unfold Qo3 at h
 split at h
 ·rename_i fs cs hu
  obtain ⟨vs,rfl,hall⟩:=hx
  split at h
  ·rename_i fl hf
   obtain ⟨v,hv,hr⟩:=Ki0 P h hall w
   refine ⟨v,?_,hr⟩
   simp only [Instr.field,Sem.run_bind,run_underlying hu,Result.andThen_ok,hf,asAgg,Sem.run_pure,hv]
  ·cases h
 ·cases h
def Jz0 (t:TypeId)(x i:AV):Option AV :=
 match P.underlying t,x,i with
 | some (.array len elem),.one (.ptr r ver off),.one (.int _ i)=>match Jf5 P elem with
  | some n=>if 0<=i/\i<(len:Int) then some (.one (.ptr r ver (off+i.toNat*n))) else none
  | none=>none
 | some (.slice elem),.one (.sl r ver off len),.one (.int _ i)=>match Jf5 P elem with
  | some n=>if 0<=i/\i<(len:Int) then some (.one (.ptr r ver (off+i.toNat*n))) else none
  | none=>none
 | some (.array len elem),.one (.gp g off),.one (.int _ i)=>match Jf5 P elem with
  | some n=>if 0<=i/\i<(len:Int) then some (.one (.gp g (off+i.toNat*n))) else none
  | none=>none
 | _,_,_=>none
def Kx8 (t:TypeId)(x:AV):Option AV :=
 match P.underlying t,x with
 | some (.array n _),.one (.sl r ver off len)=>if 0<n/\n<=len then some (.one (.ptr r ver off)) else none
 | _,_=>none
theorem Qf2 {ρ:Env}{t:TypeId}{x z:AV}{u:Value}(h:Kx8 P t x=some z)(hx:VR ρ x u)(w:World):∃ v,(Instr.arrayAt t u).run P w=.ok v w/\VR ρ z v:=by
 unfold Kx8 at h
 split at h
 ·rename_i n e r ver off len hu
  obtain ⟨A,c0,B,c,ha,rfl,hlen,hB,h0⟩:=hx
  split at h
  ·rename_i hb
   injection h with h;subst h
   obtain ⟨a,rfl,rfl⟩:=hB (by omega)
   exact ⟨_,by simp [Instr.arrayAt,run_underlying hu,Nat.not_lt.2 hb.2],a,c0,ha,rfl⟩
  ·cases h
 ·cases h
theorem Kq6 {ρ:Env}{t:TypeId}{x i z:AV}{u j:Value}(h:Jz0 P t x i=some z)(hx:VR ρ x u)(hi:VR ρ i j)(w:World):∃ v,(Instr.indexAt t u j).run P w=.ok v w/\VR ρ z v:=by
 unfold Jz0 at h
 split at h
 ·rename_i len elem r ver off k i hu
  obtain ⟨a,kk,ha,rfl⟩:=hx
  have e:j=_:=hi
  subst e
  split at h
  ·rename_i n hn
   split at h
   ·rename_i hb
    injection h with h;subst h
    refine ⟨_,?_,a,kk,ha,rfl⟩
    simp [Instr.indexAt,asIntOf,run_underlying hu,Instr.sureAddr,hb.1,hb.2,Je7 P hn,Jg3]
   ·cases h
  ·cases h
 ·rename_i elem r ver off len k i hu
  obtain ⟨A,c0,B,c,ha,rfl,hlen,hB,h0⟩:=hx
  have e:j=_:=hi
  subst e
  split at h
  ·rename_i n hn
   split at h
   ·rename_i hb
    injection h with h;subst h
    obtain ⟨a,rfl,rfl⟩:=hB (by omega)
    refine ⟨_,?_,a,c0,ha,rfl⟩
    simp [Instr.indexAt,asIntOf,run_underlying hu,Instr.sureAddr,hb.1,hb.2,Je7 P hn,Jg3]
   ·cases h
  ·cases h
 ·rename_i len elem g off k i hu
  have e1:u=_:=hx
  have e:j=_:=hi
  subst e1;subst e
  split at h
  ·rename_i n hn
   split at h
   ·rename_i hb
    injection h with h;subst h
    refine ⟨_,?_,rfl⟩
    simp [Instr.indexAt,asIntOf,run_underlying hu,Instr.sureAddr,hb.1,hb.2,Je7 P hn,Jg3]
   ·cases h
  ·cases h
 ·cases h
def Qm5 (t:TypeId)(x i:AV):Option AV :=
 match P.underlying t,x,i with
 | some (.array len elem),.agg cs,.one (.int _ i)=>match Jf5 P elem with
  | some n=>if 0<=i/\i<(len:Int) then Kh6 P elem cs (i.toNat*n) else none
  | none=>none
 | some .string,.one (.str s),.one (.int _ i)=>if 0<=i then (s[i.toNat]?).map fun b=>.one (.int .u8 b.toNat) else none
 | _,_,_=>none
theorem Qr2 {ρ:Env}{t:TypeId}{x i z:AV}{u j:Value}(h:Qm5 P t x i=some z)(hx:VR ρ x u)(hi:VR ρ i j)(w:World):∃ v,(Instr.index t u j).run P w=.ok v w/\VR ρ z v:=by
 unfold Qm5 at h
 split at h
 ·rename_i len elem cs k i hu
  obtain ⟨vs,rfl,hall⟩:=hx
  have e:j=_:=hi
  subst e
  split at h
  ·rename_i n hn
   split at h
   ·rename_i hb
    obtain ⟨v,hv,hr⟩:=Ki0 P h hall w
    refine ⟨v,?_,hr⟩
    simp [Instr.index,asIntOf,run_underlying hu,hb.1,hb.2,Je7 P hn,hv]
   ·cases h
  ·cases h
 ·rename_i s k i hu
  have e:j=_:=hi
  subst e
  have e:u=_:=hx
  subst e
  split at h
  ·rename_i hb
   simp only [Option.map_eq_some_iff] at h
   obtain ⟨b,hs,rfl⟩:=h
   refine ⟨_,?_,rfl⟩
   simp [Instr.index,asIntOf,run_underlying hu,hb,hs]
  ·cases h
 ·cases h
def Qu1 (x:Option AV)(dflt:Int):Option Int :=
 match x with
 | none=>some dflt
 | some (.one (.int _ i))=>some i
 | some _=>none
def Qi8 (t:TypeId)(x:AV)(lo hi:Option AV):Option AV :=
 match P.underlying t,x with
 | some (.slice elem),.one (.sl r ver off len)=>match Jf5 P elem,Qu1 lo 0,Qu1 hi len with
  | some n,some l,some h=>if n≠0/\0<=l/\l<=h/\h<=(len:Int) then some (.one (.sl r ver (off+l.toNat*n) (h.toNat - l.toNat))) else none
  | _,_,_=>none
 | some .string,.one (.str s)=>match Qu1 lo 0,Qu1 hi s.size with
  | some l,some h=>if 0<=l/\l<=h/\h<=(s.size:Int) then some (.one (.str (s.extract l.toNat h.toNat))) else none
  | _,_=>none
 | _,_=>none
theorem Jo0 (k:IntKind)(i:Int)(y:Nat)(code:BoundsCode)(h0:0<=i)(h1:i<=(y:Int))(w:World):(Instr.sliceBound (.int k i) y code).run P w=.ok i.toNat w:=by
 simp [Instr.sliceBound,asIntOf,h0,h1]
theorem Ji6 {ρ:Env}{isSlice:Bool}{len cap:Nat}{lo hi:Option AV}{ulo uhi:Option Value}{l h:Int}(hl:Qu1 lo 0=some l)(hh:Qu1 hi len=some h)(h0:0<=l)(h1:l<=h)(h2:h<=(len:Int))(hc:len<=cap)
  (hlo:∀ x,lo=some x->∃ u,ulo=some u/\VR ρ x u) (hlo':lo=none->ulo=none) (hhi:∀ x,hi=some x->∃ u,uhi=some u/\VR ρ x u) (hhi':hi=none->uhi=none) (w:World) :
  (Instr.sliceBounds isSlice len cap ulo uhi none).run P w=.ok (l.toNat,h.toNat,cap) w:=by
 have hu:(uhi=none/\h=len)\/∃ k,uhi=some (.int k h):=by
  cases hi with
  | none=>left;simp [Qu1] at hh;exact ⟨hhi' rfl,hh.symm⟩
  | some x =>
   obtain ⟨u,hu,hr⟩:=hhi x rfl
   unfold Qu1 at hh
   split at hh
   ·rename_i e;cases e
   ·rename_i k i e
    injection e with e;subst e
    injection hh with hh;subst hh
    exact .inr ⟨k,by rw [hu];have:u=_:=hr;rw [this]⟩
   ·cases hh
 have hv:(ulo=none/\l=0)\/∃ k,ulo=some (.int k l):=by
  cases lo with
  | none=>left;simp [Qu1] at hl;exact ⟨hlo' rfl,hl.symm⟩
  | some x =>
   obtain ⟨u,hu,hr⟩:=hlo x rfl
   unfold Qu1 at hl
   split at hl
   ·rename_i e;cases e
   ·rename_i k i e
    injection e with e;subst e
    injection hl with hl;subst hl
    exact .inr ⟨k,by rw [hu];have:u=_:=hr;rw [this]⟩
   ·cases hl
 rcases hu with ⟨rfl,rfl⟩|⟨k1,rfl⟩<;>rcases hv with ⟨rfl,rfl⟩|⟨k2,rfl⟩
 ·simp [Instr.sliceBounds]
 ·simp [Instr.sliceBounds,Jo0 P k2 l len _ h0 h1]
 ·have:=Jo0 P k1 h cap (if isSlice=true then BoundsCode.sliceAcap else BoundsCode.sliceAlen) (by omega) (by omega) w
  simp [Instr.sliceBounds,this]
 ·have:=Jo0 P k1 h cap (if isSlice=true then BoundsCode.sliceAcap else BoundsCode.sliceAlen) (by omega) (by omega) w
  have h3:=Jo0 P k2 l h.toNat BoundsCode.sliceB h0 (by omega) w
  simp [Instr.sliceBounds,this,h3]
theorem Qq9 {ρ:Env}{t:TypeId}{x z:AV}{u:Value}{lo hi:Option AV}{ulo uhi:Option Value}(h:Qi8 P t x lo hi=some z)(hx:VR ρ x u)
  (hlo:∀ x,lo=some x->∃ u,ulo=some u/\VR ρ x u) (hlo':lo=none->ulo=none) (hhi:∀ x,hi=some x->∃ u,uhi=some u/\VR ρ x u) (hhi':hi=none->uhi=none) (w:World) :
  ∃ v,(Instr.sliceAt t u ulo uhi none).run P w=.ok v w/\VR ρ z v:=by
 unfold Qi8 at h
 split at h
 ·rename_i elem r ver off len hu
  obtain ⟨A,c0,B,c,ha,rfl,hlen,hB,h0⟩:=hx
  split at h
  ·rename_i n l hh hn hl hhh
   split at h
   ·rename_i hb
    obtain ⟨hn0,b0,b1,b2⟩:=hb
    injection h with h;subst h
    have hr:=Ji6 P (isSlice:=true) hl hhh b0 b1 b2 hlen hlo hlo' hhi hhi' w
    refine ⟨.slice (if c=l.toNat then B else B.map (·.add (l.toNat*n))) (hh.toNat - l.toNat) (c - l.toNat),?_,?_⟩
    ·simp only [Instr.sliceAt,Instr.slice,Sem.run_bind,run_underlying hu,Result.andThen_ok,hr,Je7 P hn,Sem.run_pure]
    ·refine ⟨A,c0,_,_,ha,rfl,by omega,fun hpos=>?_,fun hz=>?_⟩
     ·obtain ⟨a,rfl,rfl⟩:=hB (by omega)
      refine ⟨a,rfl,?_⟩
      rw [if_neg (by omega)]
      simp [Jg3]
     ·have hl0:l.toNat=0:=by
       rcases Nat.eq_zero_or_pos l.toNat with h|h
       ·exact h
       ·have:=Nat.mul_pos h (Nat.pos_of_ne_zero hn0);omega
      obtain ⟨hBA,hcc⟩:=h0 (by omega)
      subst hBA;subst hcc
      refine ⟨?_,by omega⟩
      rw [hl0]
      split
      ·rfl
      ·cases B<;>simp [Addr.add]
   ·cases h
  ·cases h
 ·rename_i s hu
  have e:u=_:=hx
  subst e
  split at h
  ·rename_i l hh hl hhh
   split at h
   ·rename_i hb
    obtain ⟨b0,b1,b2⟩:=hb
    injection h with h;subst h
    have hr:=Ji6 P (isSlice:=false) hl hhh b0 b1 b2 (Nat.le_refl _) hlo hlo' hhi hhi' w
    refine ⟨.string (s.extract l.toNat hh.toNat),?_,rfl⟩
    simp only [Instr.sliceAt,Instr.slice,Sem.run_bind,run_underlying hu,Result.andThen_ok,hr,Sem.run_pure,Option.isSome_none,Bool.false_eq_true,if_false]
   ·cases h
  ·cases h
 ·cases h
def Ki7 (x:AV)(i:Nat):Option AV :=
 match x with
 | .tup ts=>match ts[i]? with
  | some (true,cs)=>some (.agg cs)
  | some (false,[c])=>some (.one c)
  | _=>none
 | _=>none
theorem Kz8 {ρ:Env}{x z:AV}{i:Nat}{u:Value}(h:Ki7 x i=some z)(hx:VR ρ x u)(w:World):∃ v,(Instr.extract u i).run P w=.ok v w/\VR ρ z v:=by
 unfold Ki7 at h
 split at h
 ·rename_i ts
  obtain ⟨vs,rfl,hall⟩:=hx
  split at h
  ·rename_i cs he
   injection h with h;subst h
   obtain ⟨v,hv,hr⟩:=hall.get he
   have hv':vs[i]?=some v:=by simpa using hv
   exact ⟨v,by simp [Instr.extract,hv'],hr⟩
  ·rename_i c he
   injection h with h;subst h
   obtain ⟨v,hv,hr⟩:=hall.get he
   have hv':vs[i]?=some v:=by simpa using hv
   exact ⟨v,by simp [Instr.extract,hv'],hr⟩
  ·cases h
 ·cases h
def Qu0:List AV->Option (List (Nat × Nat × Nat))
 | []=>some []
 | .one (.ptr r ver off)::l=>(Qu0 l).map ((r,ver,off)::·)
 | _::_=>none
theorem Qp8 {ρ:Env}:∀ {xs:List AV} {vs:List Value} {cs:List (Nat × Nat × Nat)},All2 (VR ρ) xs vs->Qu0 xs=some cs->All2 (CapR ρ) cs vs
 | [],[],cs,_,h=>by simp [Qu0] at h;subst h;trivial
 | x::xs,v::vs,cs,hr,h=>by
  unfold Qu0 at h
  split at h
  ·rename_i e;cases e
  ·rename_i r ver off l e
   injection e with e1 e2
   subst e1;subst e2
   simp only [Option.map_eq_some_iff] at h
   obtain ⟨cs',h',rfl⟩:=h
   exact ⟨hr.1,Qp8 hr.2 h'⟩
  ·cases h
 | [],_::_,_,h,_=>h.elim
 | _::_,[],_,h,_=>h.elim
def lenA (t:TypeId)(x:AV):Option AV :=
 match P.underlying t,x with
 | some .string,.one (.str s)=>some (.one (.int .i64 s.size))
 | some (.array n _),_=>some (.one (.int .i64 n))
 | some (.slice _),.one (.sl _ _ _ len)=>some (.one (.int .i64 len))
 | some (.slice _),.one .nils=>some (.one (.int .i64 0))
 | _,_=>none
theorem Vn2 {ρ:Env}{t ty:TypeId}{x z:AV}{u:Value}(h:lenA P t x=some z)(hx:VR ρ x u)(w:World):∃ v,(Builtin.len_ #[t] ty #[u]).run P w=.ok v w/\VR ρ z v:=by
 unfold lenA at h
 split at h
 ·rename_i s hu
  have e:u=_:=hx
  subst e
  injection h with h;subst h
  exact ⟨_,by simp [Builtin.len_,run_underlying hu,goInt],rfl⟩
 ·rename_i n e' hu
  injection h with h;subst h
  exact ⟨.int .i64 n,by simp [Builtin.len_,run_underlying hu,goInt],rfl⟩
 ·rename_i e' r ver off len hu
  obtain ⟨A,c0,B,c,ha,rfl,_⟩:=hx
  injection h with h;subst h
  exact ⟨_,by simp [Builtin.len_,run_underlying hu,goInt],rfl⟩
 ·rename_i e' hu
  have e:u=_:=hx
  subst e
  injection h with h;subst h
  exact ⟨_,by simp [Builtin.len_,run_underlying hu,goInt],rfl⟩
 ·cases h
def minI (a b:Int):Int:=if b<a then b else a
def maxI (a b:Int):Int:=if a<b then b else a
def mmA (f:Int->Int->Int)(k:IntKind):Int->List AV->Option AV
 | a,[]=>some (.one (.int k a))
 | a,.one (.int _ b)::r=>mmA f k (f a b) r
 | _,_=>none
theorem Kv9 {ρ:Env}(f:Int->Int->Int)(g:Value->Value->Sem Value)(hg:∀ k a k' b,g (.int k a) (.int k' b)=pure (.int k (f a b)))(w:World)(k:IntKind) :
  ∀ {xs:List AV} {vs:List Value} {a:Int} {z:AV},mmA f k a xs=some z->All2 (VR ρ) xs vs->∃ q,(vs.foldlM g (.int k a)).run P w=.ok q w/\VR ρ z q
 | [],[],a,z,h,_=>by
  simp [mmA] at h;subst h
  exact ⟨.int k a,by simp,rfl⟩
 | x::xs,v::vs,a,z,h,hx=>by
  unfold mmA at h
  split at h
  ·rename_i e;cases e
  ·rename_i a' k' b r e1
   injection e1 with e1 e2
   subst e1;subst e2
   have e1:v=_:=hx.1
   subst e1
   obtain ⟨q,hq,hr⟩:=Kv9 f g hg w k h hx.2
   exact ⟨q,by simpa [List.foldlM_cons,hg] using hq,hr⟩
  ·cases h
 | [],_::_,_,_,_,h=>h.elim
 | _::_,[],_,_,_,h=>h.elim
def mm (f:Int->Int->Int):List AV->Option AV
 | .one (.int k a)::r=>mmA f k a r
 | _=>none
theorem Xe7 {ρ:Env}{ts:Array TypeId}{ty:TypeId}{xs:List AV}{vs:List Value}{z:AV}(h:mm minI xs=some z)(hx:All2 (VR ρ) xs vs)(w:World):∃ q,(Builtin.min_ ts ty vs.toArray).run P w=.ok q w/\VR ρ z q:=by
 unfold mm at h
 split at h
 ·rename_i k a r
  match vs,hx with
  | v::vs,hx =>
   have e1:v=_:=hx.1
   subst e1
   obtain ⟨q,hq,hr⟩:=Kv9 P minI Builtin.min2 (fun _ _ _ _=>rfl) w k h hx.2
   exact ⟨q,by simpa [Builtin.min_] using hq,hr⟩
 ·cases h
theorem Xe8 {ρ:Env}{ts:Array TypeId}{ty:TypeId}{xs:List AV}{vs:List Value}{z:AV}(h:mm maxI xs=some z)(hx:All2 (VR ρ) xs vs)(w:World):∃ q,(Builtin.max_ ts ty vs.toArray).run P w=.ok q w/\VR ρ z q:=by
 unfold mm at h
 split at h
 ·rename_i k a r
  match vs,hx with
  | v::vs,hx =>
   have e1:v=_:=hx.1
   subst e1
   obtain ⟨q,hq,hr⟩:=Kv9 P maxI Builtin.max2 (fun _ _ _ _=>rfl) w k h hx.2
   exact ⟨q,by simpa [Builtin.max_] using hq,hr⟩
 ·cases h
end
section
variable (P:Program)
def Qd6 (t:TypeId)(mem:Ja1):Option (AV × Ja1) :=
 match Jc0 P t with
 | some z=>some (.one (.ptr mem.length 0 0),mem++[⟨.fix,t,0,0,z.cells.toList.map Jj4⟩])
 | none=>none
theorem Qr6 {ρ:Env}{mem mem':Ja1}{w:World}(hm:RepM ρ mem w){t:TypeId}{z:AV}(h:Qd6 P t mem=some (z,mem')) :
  ∃ v w' ρ',(Instr.alloc t true (.tuple #[])).run P w=.ok v w'/\VR ρ' z v/\RepM ρ' mem' w'/\Step mem ρ w mem' ρ' w':=by
 unfold Qd6 at h
 split at h
 ·rename_i z0 hz
  injection h with h
  injection h with h1 h2
  subst h1;subst h2
  obtain ⟨g1,g2,g3⟩:=hm.newFix t 0 (z0.cells.toList.map Jj4) z0.cells (Jn9 ρ _)
  refine ⟨_,_,_,?_,g3,g1,g2⟩
  simp only [Instr.alloc,Sem.run_bind,Jh6 P hz,Result.andThen_ok,newVar,newRow,run_newObj,Sem.run_pure]
  rfl
 ·cases h
def Yc6 (t:TypeId)(x:AV)(mem:Ja1):Option (AV × Ja1) :=
 match x.cells with
 | some cs=>some (.one (.ptr mem.length 0 0),mem++[⟨.fix,t,0,0,cs⟩])
 | none=>none
theorem Vn4 {ρ:Env}{mem mem':Ja1}{w:World}(hm:RepM ρ mem w){t:TypeId}{x z:AV}{u:Value}(h:Yc6 t x mem=some (z,mem'))(hx:VR ρ x u) :
  ∃ v w' ρ',(Instr.box t u).run P w=.ok v w'/\VR ρ' z v/\RepM ρ' mem' w'/\Step mem ρ w mem' ρ' w':=by
 unfold Yc6 at h
 split at h
 ·rename_i cs hcs
  injection h with h
  injection h with h1 h2
  subst h1;subst h2
  obtain ⟨g1,g2,g3⟩:=hm.newFix t 0 cs u.cells (hx.cells hcs)
  refine ⟨_,_,_,?_,g3,g1,g2⟩
  simp only [Instr.box,Sem.run_bind,newVar,newRow,run_newObj,Result.andThen_ok,Sem.run_pure]
  rfl
 ·cases h
def Qe2 (z:Value)(n:Nat):List CV:=(List.range n).map fun i=>Jj4 (z.cells[i%z.cells.size]!)
def Jq7 (t:TypeId)(len:Nat)(parts:List (Nat × AV))(mem:Ja1):Option (AV × Ja1) :=
 match P.underlying t with
 | some (.slice e)=>match Jf5 P e,Jc0 P e with
  | some size,some z =>
   if 0<size/\len*size<=16777216/\len<=16777216 then
    match Kp9 (fun i=>some (i*size,size)) (Qe2 z (len*size)) parts with
    | some cs=>some (.one (.sl mem.length 0 0 len),mem++[⟨.grow,e,0,size,cs⟩])
    | none=>none
   else none
  | _,_=>none
 | _=>none
theorem Kh2 {place:Nat->Option (Nat × Nat)}:∀ {parts:List (Nat × AV)} {cells out:List CV},Kp9 place cells parts=some out->out.length=cells.length
 | [],cells,out,h=>by simp [Kp9] at h;rw [h]
 | (i,x)::rest,cells,out,h=>by
  simp only [Kp9] at h
  split at h
  ·split at h
   ·split at h
    ·rw [Kh2 h,Jn6]
    ·cases h
   ·cases h
  ·cases h
theorem Kt3 (ρ:Env)(z:Value)(n:Nat):All2 (VC ρ) (Qe2 z n) ((Array.range n).map (z.cells[· % z.cells.size]!)).toList:=by
 simp only [Qe2,Array.toList_map,Array.toList_range]
 induction (List.range n) with
 | nil=>trivial
 | cons i l ih=>exact ⟨Kq0 ρ _,ih⟩
theorem Kk5 {ρ:Env}{mem mem':Ja1}{w:World}(hm:RepM ρ mem w){t:TypeId}{len:Nat}{parts:List (Nat × AV)}{vparts:List (Nat × Value)}{z:AV}
  (h:Jq7 P t len parts mem=some (z,mem')) (hp:All2 (fun (p:Nat × AV) (q:Nat × Value)=>p.1=q.1/\VR ρ p.2 q.2) parts vparts) :
  ∃ v w' ρ',(Instr.buildSlice t len vparts.toArray).run P w=.ok v w'/\VR ρ' z v/\RepM ρ' mem' w'/\Step mem ρ w mem' ρ' w':=by
 unfold Jq7 at h
 split at h
 ·rename_i e hu
  split at h
  ·rename_i size z0 hs hz
   split at h
   ·rename_i hb
    split at h
    ·rename_i cs hcs
     injection h with h
     injection h with h1 h2
     subst h1;subst h2
     have hzs:=Kt3 ρ z0 (len*size)
     obtain ⟨vout,hf,hall⟩:=Jz2 hp hzs hcs
     have hl:=hall.length
     have hl2:=Kh2 hcs
     simp [Qe2] at hl2
     have hsz:vout.size=len*size:=by rw [<-hl2,hl,Array.length_toList]
     obtain ⟨g1,g2,g3⟩:=hm.newRow e size cs vout vout.toList [] len len (by omega) hsz (by simp) hall (Nat.le_refl _) (by simp only [maxLen];omega)
     refine ⟨_,_,_,?_,g3,g1,g2⟩
     have hn:¬(len*size > 2 ^ 24):=by omega
     simp only [Instr.buildSlice,Sem.run_bind,run_underlying hu,Je7 P hs,Result.andThen_ok,if_neg hn,Sem.run_ite,Sem.run_pure,List.toList_toArray]
     by_cases h0:len*size=0
     ·rw [if_pos h0]
      have e0:(Array.range (len*size)).map ((#[]:Array Value)[· % (#[]:Array Value).size]!)=(Array.range (len*size)).map (z0.cells[· % z0.cells.size]!):=by rw [h0,Array.range_zero'];simp
      rw [e0,hf]
      rfl
     ·rw [if_neg h0]
      simp only [Jh6 P hz,Result.andThen_ok,hf]
      rfl
    ·cases h
   ·cases h
  ·cases h
 ·cases h
def Ve3 (t:TypeId)(l c:AV)(mem:Ja1):Option (AV × Ja1) :=
 match P.underlying t with
 | some (.slice e)=>match Jf5 P e,Kq4 P e,Jc0 P e,l,c with
  | some size,some bytes,some z,.one (.int _ l),.one (.int _ c) =>
   if 0<size/\0<=l/\l<=c/\(bytes:Int)*c<=281474976710656/\c<=281474976710656 then some (.one (.sl mem.length 0 0 l.toNat),mem++[⟨.grow,e,0,size,Qe2 z (l.toNat*size)⟩])
   else none
  | _,_,_,_,_=>none
 | _=>none
theorem Qq3 (z:Value)(m n:Nat)(h:m<=n):((Array.range n).map (z.cells[· % z.cells.size]!)).toList=((Array.range m).map (z.cells[· % z.cells.size]!)).toList++(((Array.range n).map (z.cells[· % z.cells.size]!)).toList.drop m):=by
 conv=>lhs;rw [<-List.take_append_drop m ((Array.range n).map (z.cells[· % z.cells.size]!)).toList]
 congr 1
 simp only [Array.toList_map,Array.toList_range,<-List.map_take,List.take_range]
 rw [Nat.min_eq_left h]
theorem Qz0 {ρ:Env}{mem mem':Ja1}{w:World}(hm:RepM ρ mem w){t:TypeId}{l c z:AV}{ul uc:Value}(h:Ve3 P t l c mem=some (z,mem'))(hl:VR ρ l ul)(hc:VR ρ c uc) :
  ∃ v w' ρ',(Instr.makeSlice t ul uc).run P w=.ok v w'/\VR ρ' z v/\RepM ρ' mem' w'/\Step mem ρ w mem' ρ' w':=by
 unfold Ve3 at h
 split at h
 ·rename_i e hu
  split at h
  ·rename_i size bytes z0 kl l kc c hs hby hz
   split at h
   ·rename_i hb
    obtain ⟨bz,b0,b1,b2,b3⟩:=hb
    injection h with h
    injection h with h1 h2
    subst h1;subst h2
    have e1:ul=_:=hl
    have e2:uc=_:=hc
    subst e1;subst e2
    unfold Jf5 at hs;unfold Kq4 at hby;unfold Jc0 at hz
    simp only [Option.map_eq_some_iff,Option.bind_eq_some_iff] at hs hby hz
    obtain ⟨i,hi,rfl⟩:=hs
    obtain ⟨i',hi',rfl⟩:=hby
    obtain ⟨i'',hi'',hz⟩:=hz
    rw [hi] at hi' hi''
    injection hi' with e';injection hi'' with e''
    subst e';subst e''
    have hr:=run_make (P:=P) w t e i z0 hu hi hz kl kc l c b0 b1 b2 (by omega)
    have hle:l.toNat*i.size<=c.toNat*i.size:=Nat.mul_le_mul_right _ (by omega)
    obtain ⟨g1,g2,g3⟩:=hm.newRow e i.size (Qe2 z0 (l.toNat*i.size)) (madeCells z0.cells (c.toNat*i.size)) _ _ c.toNat l.toNat (by omega) (size_madeCells _ _) (Qq3 z0 _ _ hle) (Kt3 ρ z0 _) (by omega) (by simp only [maxLen];omega)
    exact ⟨_,_,_,hr,g3,g1,g2⟩
   ·cases h
  ·cases h
 ·cases h
def Vy4 (size:Nat)(x:AV)(mem:Ja1):Option (Nat × List CV) :=
 match x with
 | .one (.sl r ver off m)=>match mem[r]? with
  | some b=>if ver=b.ver/\off+m*size<=b.cells.length then some (m,(b.cells.drop off).take (m*size)) else none
  | none=>none
 | .one (.view r ver off m)=>match mem[r]? with
  | some b=>if ver=b.ver/\off+m*size<=b.cells.length then some (m,(b.cells.drop off).take (m*size)) else none
  | none=>none
 | .one .nils=>some (0,[])
 | _=>none
theorem Ke5 {ρ:Env}{mem:Ja1}{w:World}(hm:RepM ρ mem w){size:Nat}{x:AV}{u:Value}{m:Nat}{cs:List CV}(h:Vy4 size x mem=some (m,cs))(hx:VR ρ x u) :
  ∃ (B:Option Addr) (c:Nat) (vs:List Value),u=.slice B m c/\m<=c/\All2 (VC ρ) cs vs/\vs.length=m*size/\(B=none->m=0)/\(∀ a,B=some a->∀ (j:Nat) (v:Value),vs[j]?=some v->w.cell? (a.add j)=some v):=by
 unfold Vy4 at h
 split at h
 ·rename_i r ver off m'
  obtain ⟨A,c0,B,c,ha,rfl,hlen,hB,h0⟩:=hx
  split at h
  ·rename_i b hb
   split at h
   ·rename_i hc
    obtain ⟨hv,hbound⟩:=hc
    subst hv
    injection h with h
    injection h with h1 h2
    subst h1;subst h2
    have hbk:=hm.blk r b hb
    have hcl:((b.cells.drop off).take (m'*size)).length=m'*size:=by simp;omega
    by_cases hm0:m'=0
    ·subst hm0
     refine ⟨B,c,[],rfl,hlen,?_,by simp,fun _=>rfl,fun a _ j v hj=>by simp at hj⟩
     simp [All2]
    ·obtain ⟨a,rfl,rfl⟩:=hB (by omega)
     have hget:∀ (j:Nat) (x:CV),((b.cells.drop off).take (m'*size))[j]?=some x->∃ v,w.cell? (a.add (off+j))=some v/\VC ρ x v:=by
      intro j x hj
      refine Ki9 hbk ha ?_
      have hjl:=(List.getElem?_eq_some_iff.1 hj).1
      rw [hcl] at hjl
      rw [List.getElem?_take_of_lt hjl,List.getElem?_drop] at hj
      exact hj
     have hex:∀ (l:List CV) (k:Nat),(∀ (j:Nat) (x:CV),l[j]?=some x->∃ v,w.cell? (a.add (k+j))=some v/\VC ρ x v) ->
       ∃ vs:List Value,All2 (VC ρ) l vs/\∀ (j:Nat) (v:Value),vs[j]?=some v->w.cell? (a.add (k+j))=some v:=by
      intro l
      induction l with
      | nil=>intro k _;exact ⟨[],trivial,fun j v hj=>by simp at hj⟩
      | cons x l ih =>
       intro k hl
       obtain ⟨v,hv,hr⟩:=hl 0 x rfl
       obtain ⟨vs,h1,h2⟩:=ih (k+1) (fun j y hj=>by
        obtain ⟨v,hv,hr⟩:=hl (j+1) y (by simpa using hj)
        exact ⟨v,by rw [show k+1+j=k+(j+1) by omega];exact hv,hr⟩)
       refine ⟨v::vs,⟨hr,h1⟩,fun j y hj=>?_⟩
       cases j with
       | zero=>simp at hj;subst hj;exact hv
       | succ j=>rw [show k+(j+1)=k+1+j by omega];exact h2 j y (by simpa using hj)
     obtain ⟨vs,h1,h2⟩:=hex _ off hget
     refine ⟨some (a.add off),c,vs,rfl,hlen,h1,?_,(fun e=>by cases e),fun a' ha' j v hj=>?_⟩
     ·rw [<-h1.length,hcl]
     ·injection ha' with ha'
      subst ha'
      rw [Jg3]
      exact h2 j v hj
   ·cases h
  ·cases h
 ·rename_i r ver off m'
  obtain ⟨A,c0,B,c,ha,rfl,hlen,hB⟩:=hx
  split at h
  ·rename_i b hb
   split at h
   ·rename_i hc
    obtain ⟨hv,hbound⟩:=hc
    subst hv
    injection h with h
    injection h with h1 h2
    subst h1;subst h2
    have hbk:=hm.blk r b hb
    have hcl:((b.cells.drop off).take (m'*size)).length=m'*size:=by simp;omega
    by_cases hm0:m'=0
    ·subst hm0
     refine ⟨B,c,[],rfl,hlen,?_,by simp,fun _=>rfl,fun a _ j v hj=>by simp at hj⟩
     simp [All2]
    ·obtain ⟨a,rfl,rfl⟩:=hB (by omega)
     have hget:∀ (j:Nat) (x:CV),((b.cells.drop off).take (m'*size))[j]?=some x->∃ v,w.cell? (a.add (off+j))=some v/\VC ρ x v:=by
      intro j x hj
      refine Ki9 hbk ha ?_
      have hjl:=(List.getElem?_eq_some_iff.1 hj).1
      rw [hcl] at hjl
      rw [List.getElem?_take_of_lt hjl,List.getElem?_drop] at hj
      exact hj
     have hex:∀ (l:List CV) (k:Nat),(∀ (j:Nat) (x:CV),l[j]?=some x->∃ v,w.cell? (a.add (k+j))=some v/\VC ρ x v) ->
       ∃ vs:List Value,All2 (VC ρ) l vs/\∀ (j:Nat) (v:Value),vs[j]?=some v->w.cell? (a.add (k+j))=some v:=by
      intro l
      induction l with
      | nil=>intro k _;exact ⟨[],trivial,fun j v hj=>by simp at hj⟩
      | cons x l ih =>
       intro k hl
       obtain ⟨v,hv,hr⟩:=hl 0 x rfl
       obtain ⟨vs,h1,h2⟩:=ih (k+1) (fun j y hj=>by
        obtain ⟨v,hv,hr⟩:=hl (j+1) y (by simpa using hj)
        exact ⟨v,by rw [show k+1+j=k+(j+1) by omega];exact hv,hr⟩)
       refine ⟨v::vs,⟨hr,h1⟩,fun j y hj=>?_⟩
       cases j with
       | zero=>simp at hj;subst hj;exact hv
       | succ j=>rw [show k+(j+1)=k+1+j by omega];exact h2 j y (by simpa using hj)
     obtain ⟨vs,h1,h2⟩:=hex _ off hget
     refine ⟨some (a.add off),c,vs,rfl,hlen,h1,?_,(fun e=>by cases e),fun a' ha' j v hj=>?_⟩
     ·rw [<-h1.length,hcl]
     ·injection ha' with ha'
      subst ha'
      rw [Jg3]
      exact h2 j v hj
   ·cases h
  ·cases h
 ·have e:u=_:=hx
  subst e
  injection h with h
  injection h with h1 h2
  subst h1;subst h2
  exact ⟨none,0,[],rfl,Nat.le_refl _,trivial,by simp,(fun _=>rfl),(fun a e=>by cases e)⟩
 ·cases h
def Kp5:List CV->Option (List Int)
 | []=>some []
 | .int .u8 n::r=>(Kp5 r).map (n::·)
 | _=>none
def Xr8 (ns:List Int):ByteArray:=ns.foldl (fun r n=>r.push (UInt8.ofNat n.toNat)) ByteArray.empty
theorem Jy5 {ρ:Env}:∀ {cs:List CV} {ns:List Int} {vs:List Value},Kp5 cs=some ns->All2 (VC ρ) cs vs->vs=ns.map (Value.int .u8)
 | [],ns,[],h,_=>by simp [Kp5] at h;subst h;rfl
 | [],_,_::_,_,h=>h.elim
 | .int .u8 n::r,ns,v::vs,h,hv=>by
  simp only [Kp5,Option.map_eq_some_iff] at h
  obtain ⟨ns',h',rfl⟩:=h
  have e:v=.int .u8 n:=hv.1
  rw [Jy5 h' hv.2,e];rfl
 | _::_,_,[],_,h=>h.elim
def Qh1 (src dst:TypeId)(x:AV)(mem:Ja1):Option AV :=
 match P.underlying src,P.underlying dst with
 | some (.slice el),some .string=>match P.underlying el with
  | some (.int .u8)=>match Vy4 1 x mem with
   | some (_,cs)=>(Kp5 cs).map fun ns=>.one (.str (Xr8 ns))
   | none=>none
  | _=>none
 | some (.pointer t),some .unsafePointer=>match x with
  | .one (.ptr r ver off)=>match mem[r]?,Jf5 P t with
   | some ⟨.fix,_,v,_,cells⟩,some k=>if v=ver/\off<cells.length/\k≠0 then some x else none
   | _,_=>none
  | _=>none
 | some .unsafePointer,some (.pointer t)=>match x with
  | .one (.ptr r ver off)=>match mem[r]?,Jf5 P t with
   | some ⟨.fix,ty,v,_,cells⟩,some _=>if v=ver/\liesAt P P.depth ty (cells.length / P.cellsOf ty) off t 1=true then some x else none
   | _,_=>none
  | _=>none
 | _,_=>Vv8 P src dst x
theorem Qz4 {ρ:Env}{mem:Ja1}{w:World}(hm:RepM ρ mem w){src dst:TypeId}{x z:AV}{u:Value}(h:Qh1 P src dst x mem=some z)(hx:VR ρ x u):∃ v,(convert src dst u).run P w=.ok v w/\VR ρ z v:=by
 unfold Qh1 at h
 split at h
 ·rename_i el hs hd
  split at h
  ·rename_i he
   split at h
   ·rename_i n cs hsrc
    simp only [Option.map_eq_some_iff] at h
    obtain ⟨ns,hb,rfl⟩:=h
    obtain ⟨B,c,vs,rfl,_,hall,hlen,hnone,hcell⟩:=Ke5 hm hsrc hx
    have hvs:=Jy5 hb hall
    refine ⟨.string (Xr8 ns),?_,rfl⟩
    rw [run_convert_bytes_string w src dst el B n c hs he hd]
    cases B with
    | none =>
     have h0:=hnone rfl
     subst h0
     have:ns=[]:=by
      have:ns.length=0:=by rw [hvs] at hlen;simpa using hlen
      exact List.eq_nil_of_length_eq_zero this
     subst this
     rfl
    | some a =>
     refine run_bytesToString w a n c ns ?_
     have h1:=run_loadCells_list (P:=P) (w:=w) a vs (hcell a rfl)
     rw [show vs.length=n by omega,hvs] at h1
     exact h1
   ·cases h
  ·cases h
 ·rename_i t hs hd
  split at h
  ·rename_i r ver off
   split at h
   ·rename_i ty v esz cells k hb hsz
    split at h
    ·rename_i hc
     obtain ⟨rfl,hoff,hk⟩:=hc
     injection h with h;subst h
     obtain ⟨a,kk,ha,rfl⟩:=id hx
     obtain ⟨n,c,k2,h1,h2,h3,h4⟩:=hm.blk r _ hb
     rw [h1] at ha;injection ha with ha;injection ha with ha1 ha2
     injection ha1 with ha1
     subst ha1
     unfold Jf5 at hsz
     simp only [Option.map_eq_some_iff] at hsz
     obtain ⟨i,hi,rfl⟩:=hsz
     have hcs:c.size=cells.length:=by rw [<-Array.length_toList];exact h3.length.symm
     have hadd:((⟨n,0,none⟩:Addr).add off)=⟨n,off,none⟩:=by
      unfold Addr.add;split
      ·rename_i h;rw [h]
      ·simp
     rw [hadd] at hx ⊢
     exact ⟨_,Lib.run_to_unsafe w ⟨n,off,none⟩ hs hd hi hk (e:=ty) (cells:=c.size) (by simp [World.shape?,h2]) (by rw [hcs];exact hoff),hx⟩
    ·cases h
   ·cases h
  ·cases h
 ·rename_i t hs hd
  split at h
  ·rename_i r ver off
   split at h
   ·rename_i ty v esz cells k hb hsz
    split at h
    ·rename_i hc
     obtain ⟨rfl,hlies⟩:=hc
     injection h with h;subst h
     obtain ⟨a,kk,ha,rfl⟩:=id hx
     obtain ⟨n,c,k2,h1,h2,h3,h4⟩:=hm.blk r _ hb
     rw [h1] at ha;injection ha with ha;injection ha with ha1 ha2
     injection ha1 with ha1
     subst ha1
     unfold Jf5 at hsz
     simp only [Option.map_eq_some_iff] at hsz
     obtain ⟨i,hi,_⟩:=hsz
     have hcs:c.size=cells.length:=by rw [<-Array.length_toList];exact h3.length.symm
     have hadd:((⟨n,0,none⟩:Addr).add off)=⟨n,off,none⟩:=by
      unfold Addr.add;split
      ·rename_i h;rw [h]
      ·simp
     rw [hadd] at hx ⊢
     exact ⟨_,Lib.run_from_unsafe w ⟨n,off,none⟩ hs hd hi (e:=ty) (cells:=c.size) (by simp [World.shape?,h2]) (by rw [hcs];exact hlies),hx⟩
    ·cases h
   ·cases h
  ·cases h
 ·exact Qz5 P h hx w
theorem Vh5 {src dst:TypeId}{x z:AV}{M:Ja1}(h:Qh1 P src dst x []=some z):Qh1 P src dst x M=some z:=by
 unfold Qh1 at h ⊢
 split
 ·rename_i el hs hd
  simp only [hs,hd] at h
  split
  ·rename_i he
   simp only [he] at h
   split at h
   ·rename_i n cs hsrc
    have e:Vy4 1 x M=some (n,cs):=by
     unfold Vy4 at hsrc ⊢
     split at hsrc
     ·simp at hsrc
     ·simp at hsrc
     ·exact hsrc
     ·cases hsrc
    simp only [e]
    exact h
   ·cases h
  ·rename_i hne
   split at h
   ·rename_i he;exact absurd he hne
   ·cases h
 ·rename_i t hs hd
  simp only [hs,hd] at h
  split at h
  ·simp at h
  ·cases h
 ·rename_i t hs hd
  simp only [hs,hd] at h
  split at h
  ·simp at h
  ·cases h
 ·rename_i h1 h2 h3
  split at h
  ·rename_i el hs hd;exact (h1 el hs hd).elim
  ·rename_i t hs hd;exact (h2 t hs hd).elim
  ·rename_i t hs hd;exact (h3 t hs hd).elim
  ·exact h
def Kj8 (t:TypeId)(x:AV)(lo hi:Option AV)(mem:Ja1):Option AV :=
 match P.underlying t,x with
 | some (.array n elem),.one (.ptr r ver off)=>match mem[r]?,Jf5 P elem,Qu1 lo 0,Qu1 hi n with
  | some ⟨.fix,_,v,_,cells⟩,some 1,some l,some h=>if v=ver/\(off=0->cells.length=n)/\0<=l/\l<=h/\h<=(n:Int) then some (.one (.sl r ver (off+l.toNat) (h.toNat - l.toNat))) else none
  | some ⟨.grow,_,_,_,_⟩,some 1,some l,some h=>if 0<=l/\l<=h/\h<=(n:Int) then some (.one (.view r ver (off+l.toNat) (h.toNat - l.toNat))) else none
  | some ⟨.ro,_,_,_,_⟩,some 1,some l,some h=>if 0<=l/\l<=h/\h<=(n:Int) then some (.one (.view r ver (off+l.toNat) (h.toNat - l.toNat))) else none
  | _,_,_,_=>none
 | _,_=>Qi8 P t x lo hi
theorem Qq8 {ρ:Env}{mem:Ja1}{w:World}(hm:RepM ρ mem w){t:TypeId}{x z:AV}{u:Value}{lo hi:Option AV}{ulo uhi:Option Value}(h:Kj8 P t x lo hi mem=some z)(hx:VR ρ x u)
  (hlo:∀ x,lo=some x->∃ u,ulo=some u/\VR ρ x u) (hlo':lo=none->ulo=none) (hhi:∀ x,hi=some x->∃ u,uhi=some u/\VR ρ x u) (hhi':hi=none->uhi=none) :
  ∃ v,(Instr.sliceAt t u ulo uhi none).run P w=.ok v w/\VR ρ z v:=by
 unfold Kj8 at h
 split at h
 ·rename_i n elem r ver off hu
  split at h
  ·rename_i ty v esz cells l hh hb hsz hl hhh
   split at h
   ·rename_i hc
    obtain ⟨hv,hlen,b0,b1,b2⟩:=hc
    subst hv
    injection h with h;subst h
    obtain ⟨a,k,ha,rfl⟩:=hx
    have hr:=Ji6 P (ρ:=ρ) (isSlice:=false) (len:=n) (cap:=n) hl hhh b0 b1 b2 (Nat.le_refl _) hlo hlo' hhi hhi' w
    refine ⟨.slice (some (if n=l.toNat then a.add off else (a.add off).add (l.toNat*1))) (hh.toNat - l.toNat) (n - l.toNat),?_,?_⟩
    ·simp only [Instr.sliceAt,Sem.run_bind,run_underlying hu,Result.andThen_ok,Instr.sureAddr,Sem.run_pure,hr,Je7 P hsz]
    ·refine ⟨some a,k,_,_,ha,rfl,by omega,fun hpos=>⟨a,rfl,?_⟩,fun hz=>?_⟩
     ·rw [if_neg (by omega),Jg3,Nat.mul_one]
     ·have h1:off=0:=by omega
      have h2:l.toNat=0:=by omega
      subst h1
      obtain ⟨n',c,k',q1,q2,q3,q4⟩:=hm.blk r _ hb
      have ha':=ha
      rw [q1] at ha';injection ha' with ha';injection ha' with e1 e2;injection e1 with e1
      subst e1;subst e2
      have hcl:=q3.length
      have hln:=hlen rfl
      simp only [Array.length_toList] at hcl
      refine ⟨?_,by rw [h2,q4,<-hcl,hln];omega⟩
      rw [h2]
      split<;>simp [Addr.add]
   ·cases h
  ·rename_i ty v esz cells l hh hb hsz hl hhh
   split at h
   ·rename_i hc
    obtain ⟨b0,b1,b2⟩:=hc
    injection h with h;subst h
    obtain ⟨a,k,ha,rfl⟩:=hx
    have hr:=Ji6 P (ρ:=ρ) (isSlice:=false) (len:=n) (cap:=n) hl hhh b0 b1 b2 (Nat.le_refl _) hlo hlo' hhi hhi' w
    refine ⟨.slice (some (if n=l.toNat then a.add off else (a.add off).add (l.toNat*1))) (hh.toNat - l.toNat) (n - l.toNat),?_,?_⟩
    ·simp only [Instr.sliceAt,Sem.run_bind,run_underlying hu,Result.andThen_ok,Instr.sureAddr,Sem.run_pure,hr,Je7 P hsz]
    ·refine ⟨some a,k,_,_,ha,rfl,by omega,fun hpos=>⟨a,rfl,?_⟩⟩
     rw [if_neg (by omega),Jg3,Nat.mul_one]
   ·cases h
  ·rename_i ty v esz cells l hh hb hsz hl hhh
   split at h
   ·rename_i hc
    obtain ⟨b0,b1,b2⟩:=hc
    injection h with h;subst h
    obtain ⟨a,k,ha,rfl⟩:=hx
    have hr:=Ji6 P (ρ:=ρ) (isSlice:=false) (len:=n) (cap:=n) hl hhh b0 b1 b2 (Nat.le_refl _) hlo hlo' hhi hhi' w
    refine ⟨.slice (some (if n=l.toNat then a.add off else (a.add off).add (l.toNat*1))) (hh.toNat - l.toNat) (n - l.toNat),?_,?_⟩
    ·simp only [Instr.sliceAt,Sem.run_bind,run_underlying hu,Result.andThen_ok,Instr.sureAddr,Sem.run_pure,hr,Je7 P hsz]
    ·refine ⟨some a,k,_,_,ha,rfl,by omega,fun hpos=>⟨a,rfl,?_⟩⟩
     rw [if_neg (by omega),Jg3,Nat.mul_one]
   ·cases h
  ·cases h
 ·exact Qq9 P h hx hlo hlo' hhi hhi' w
theorem Qq5 {t:TypeId}{x z:AV}{lo hi:Option AV}{M:Ja1}(h:Kj8 P t x lo hi []=some z):Kj8 P t x lo hi M=some z:=by
 unfold Kj8 at h ⊢
 split
 ·rename_i n elem r ver off hu
  simp only [hu] at h
  split at h
  ·rename_i hb _ _ _;simp at hb
  ·rename_i hb _ _ _;simp at hb
  ·rename_i hb _ _ _;simp at hb
  ·cases h
 ·rename_i hne
  split at h
  ·rename_i n elem r ver off hu;exact (hne n elem r ver off hu rfl).elim
  ·exact h
def BK.isRo:BK->Bool
 | .ro=>true
 | _=>false
theorem BK.isRo_no {k:BK}(h:k.isRo=false):k≠.ro:=by rintro rfl;cases h
def Vh3 (td:TypeId)(d x:AV)(mem:Ja1):Option (AV × Ja1) :=
 match P.underlying td,d with
 | some (.slice e),.one (.sl r ver off n)=>match Jf5 P e,mem[r]?,Vy4 1 x mem with
  | some 1,some b,some (m,cs)=>if b.kind.isRo=false/\ver=b.ver/\off+min m n<=b.cells.length/\cs.all CV.isVal=true/\0<min m n then
    some (.one (.int .i64 ((min m n:Nat):Int)),mem.set r { b with cells:=setL b.cells off (cs.take (min m n)) }) else none
  | _,_,_=>none
 | _,_=>none
theorem Qz2 {ρ:Env}{mem mem':Ja1}{w:World}(hm:RepM ρ mem w){td ts ty:TypeId}{d x z:AV}{ud ux:Value}(h:Vh3 P td d x mem=some (z,mem'))(hd:VR ρ d ud)(hx:VR ρ x ux) :
  ∃ v w' ρ',(Builtin.copy_ #[td,ts] ty #[ud,ux]).run P w=.ok v w'/\VR ρ' z v/\RepM ρ' mem' w'/\Step mem ρ w mem' ρ' w':=by
 unfold Vh3 at h
 split at h
 ·rename_i e r ver off n hu
  split at h
  ·rename_i b m cs hsz hb hsrc
   split at h
   ·rename_i hc
    obtain ⟨hk,hv,hfit,hval,hpos⟩:=hc
    subst hv
    injection h with h;injection h with h1 h2;subst h1;subst h2
    obtain ⟨A,c0,B,c,ha,rfl,hlen,hB,_⟩:=hd
    obtain ⟨B2,c2,vs,rfl,hmc,hvs,hvl,hBn,hcell⟩:=Ke5 hm hsrc hx
    obtain ⟨a,rfl,rfl⟩:=hB (by omega)
    have hone:=All2.one_of_isVal hvs hval
    have hcl:=hvs.length
    cases B2 with
    | none=>have:=hBn rfl;omega
    | some a2 =>
     have hvt:=hvs.take (min m n)
     have hl:(vs.take (min m n)).length=min m n:=by rw [List.length_take];omega
     obtain ⟨w',hst,g1,g2⟩:=hm.store (P:=P) (off:=off) hb (BK.isRo_no hk) ha hvt (by rw [hvt.length,hl];exact hfit) (fun v hv=>hone v (List.mem_of_mem_take hv))
     have hld:=run_loadCells_list (P:=P) w a2 (vs.take (min m n)) (fun j v hj=>hcell a2 rfl j v (by
      have hjl:=(List.getElem?_eq_some_iff.1 hj).1
      rw [hl] at hjl
      rwa [List.getElem?_take_of_lt hjl] at hj))
     rw [hl] at hld
     unfold Jf5 at hsz
     cases hq:P.info? e with
     | none=>simp [hq] at hsz
     | some i =>
      have hi:i.size=1:=by simpa [hq] using hsz
      have hmin:Nat.min m n=min m n:=rfl
      exact ⟨.int .i64 ((min m n:Nat):Int),w',ρ,by simp [Builtin.copy_,run_underlying hu,Builtin.lenOf,Builtin.firstCells,sizeOf,typeInfo,hq,hi,hmin,hld,hst,goInt],rfl,g1,g2⟩
   ·cases h
  ·cases h
 ·cases h
theorem Jt0 {w:World}(base:Nat)(t ty e:TypeId)(i:TypeInfo)(z:Value)(ht:P.underlying t=some (.slice e))(hi:P.info? e=some i)(hz:i.zero=some z)
  (hzs:z.cells.size=i.size) (hsz:0<i.size) (v:Value) (n:Nat) (xs:List Value) (hown:w.ownsRow base e i.size v n xs)
  (B:Option Addr) (m c:Nat) (vs:List Value) (hl:vs.length=m*i.size) (hB:B=none->m=0) (hcell:∀ a,B=some a->∀ (j:Nat) (u:Value),vs[j]?=some u->w.cell? (a.add j)=some u) (h1:∀ u ∈ vs,u.oneCell'=true)
  (h63:n+m<=maxLen) (hbytes:(n+m)*i.bytes<=140737488355328) (hbase:base<=w.heap.size) :
  ∃ v' w',(Builtin.append_ #[t,t] ty #[v,.slice B m c]).run P w=.ok v' w'/\w'.ownsRow base e i.size v' (n+m) (xs++vs)/\w.grownBy w' v.ownBlock /\
   (v'.ownBlock=v.ownBlock\/v'.ownBlock=some w.heap.size):=by
 cases B with
 | none =>
  have hm:=hB rfl
  subst hm
  have hv:vs=[]:=List.eq_nil_of_length_eq_zero (by simpa using hl)
  subst hv
  refine ⟨v,w,?_,by simpa using hown,⟨rfl,rfl,rfl,Nat.le_refl _,fun _ _ _=>rfl⟩,.inl rfl⟩
  rcases hown.2 with ⟨rfl,rfl⟩|⟨g,cap,cur,rfl,_,_,hnc,_⟩
  ·simp [Builtin.append_,run_underlying ht,sizeOf,typeInfo,hi,Builtin.lenOf,Builtin.firstCells]
  ·simp [Builtin.append_,run_underlying ht,sizeOf,typeInfo,hi,Builtin.lenOf,Builtin.firstCells,hnc,storeCells]
 | some a =>
  obtain ⟨v',w',hrun,h2,h3,_,h5⟩:=run_append_own_at (P:=P) w base t ty e i z i.size i.bytes ht hi hz rfl rfl hzs hsz v n xs hown a m c vs hl (hcell a rfl) h1 h63 hbytes hbase
  exact ⟨v',w',hrun,h2,h3,h5⟩
def Kp7 (t:TypeId)(s x:AV)(mem:Ja1):Option (AV × Ja1) :=
 match P.underlying t with
 | some (.slice e)=>match Jf5 P e,Kq4 P e,Jc0 P e with
  | some size,some bytes,some z =>
   if z.cells.size=size/\0<size then
    match Vy4 size x mem with
    | some (m,cs) =>
     if cs.all CV.isVal=true then
      match s with
      | .one .nils=>if m<=140737488355328/\m*bytes<=140737488355328 then some (.one (.sl mem.length 0 0 m),mem++[⟨.grow,e,0,size,cs⟩]) else none
      | .one (.sl r ver off n)=>match mem[r]? with
       | some b=>match b.kind with
        | .grow=>if ver=b.ver/\b.ty=e/\b.esz=size/\off=0/\b.cells.length=n*size/\n+m<=140737488355328/\(n+m)*bytes<=140737488355328 then
          some (.one (.sl r (b.ver+1) 0 (n+m)),mem.set r ⟨.grow,e,b.ver+1,size,b.cells++cs⟩)
         else if ver=b.ver/\b.ty=e/\b.esz=0/\size=1/\off=0/\b.cells.length=n/\n+m<=140737488355328/\(n+m)*bytes<=140737488355328 then
          some (.one (.sl r (b.ver+1) 0 (n+m)),mem.set r ⟨.grow,e,b.ver+1,0,b.cells++cs⟩) else none
        | _=>none
       | none=>none
      | _=>none
     else none
    | none=>none
   else none
  | _,_,_=>none
 | _=>none
theorem Kb2 {ρ:Env}{w:World}{base:Nat}{e:TypeId}{size:Nat}{v:Value}{n:Nat}{xs:List Value}{r ver:Nat}{cells:List CV}(h:w.ownsRow base e size v n xs)(hsz:0<size)(hc:All2 (VC ρ) cells xs) :
  ∃ A cap,v=.slice A n cap/\n<=cap/\(A=none->cap=0/\n=0)/\(∀ x,A=some x->v.ownBlock=some x.block)/\∀ ρ':Env,(∀ c u,VC ρ c u->VC ρ' c u)->ρ' r ver=some (A,cap)->BlkR ρ' w r ⟨.grow,e,ver,size,cells⟩:=by
 rcases h.2 with ⟨rfl,rfl⟩|⟨g,cap,cur,rfl,hbg,hg,hnc,hcm,hcs,htake⟩
 ·have hx:xs=[]:=List.eq_nil_of_length_eq_zero (by simpa using h.1)
  subst hx
  have hcc:cells=[]:=by cases cells with|nil=>rfl|cons a b=>exact hc.elim
  subst hcc
  exact ⟨none,0,rfl,Nat.le_refl _,(fun _=>⟨rfl,rfl⟩),(fun x e=>by cases e),fun ρ' _ hr=>.inl ⟨rfl,hr⟩⟩
 ·refine ⟨some ⟨g,0,none⟩,cap,rfl,hnc,(fun e=>by cases e),(fun x e=>by injection e with e;subst e;rfl),fun ρ' hle hr=>.inr ⟨g,cur,cap,xs,cur.toList.drop (n*size),hr,RowAt.plain hg,by show _=cap*Jt7 size;rw [Jt6 (by omega)];exact hcs,hcm,?_,hc.mono hle⟩⟩
  rw [<-htake]
  exact (List.take_append_drop _ _).symm
theorem Ku5 {w:World}(t ty e:TypeId)(i:TypeInfo)(z:Value)(ht:P.underlying t=some (.slice e))(hi:P.info? e=some i)(hz:i.zero=some z)(hzs:z.cells.size=i.size)(hs1:i.size=1)
  (g n cap:Nat) (cur:Array Value) (hrow:RowAt w g cur e 0) (hcs:cur.size=cap) (hcm:cap<=maxLen) (hn:n<=cap) (xs:List Value) (hxl:xs.length=n) (htake:cur.toList.take n=xs)
  (B:Option Addr) (m c:Nat) (vs:List Value) (hl:vs.length=m*i.size) (hB:B=none->m=0) (hcell:∀ a,B=some a->∀ (j:Nat) (u:Value),vs[j]?=some u->w.cell? (a.add j)=some u) (h1:∀ u ∈ vs,u.oneCell'=true)
  (h63:n+m<=maxLen) (hbytes:(n+m)*i.bytes<=140737488355328) :
  ∃ g' cap' cur' w',(Builtin.append_ #[t,t] ty #[.slice (some ⟨g,0,none⟩) n cap,.slice B m c]).run P w=.ok (.slice (some ⟨g',0,none⟩) (n+m) cap') w'/\RowAt w' g' cur' e 0/\cur'.size=cap'/\n+m<=cap'/\cap'<=maxLen /\
   cur'.toList.take (n+m)=xs++vs/\(g'=g\/w.heap.size<=g')/\w.grownBy w' (some g):=by
 obtain ⟨fz,hfz,hg⟩:=hrow
 rw [hs1,Nat.mul_one] at hl
 cases B with
 | none =>
  have hm:=hB rfl
  subst hm
  have hv:vs=[]:=List.eq_nil_of_length_eq_zero hl
  subst hv
  exact ⟨g,cap,cur,w,by simp [Builtin.append_,run_underlying ht,sizeOf,typeInfo,hi,Builtin.lenOf,Builtin.firstCells,hn,storeCells],⟨fz,hfz,hg⟩,hcs,hn,hcm,by simpa using htake,.inl rfl,⟨rfl,rfl,rfl,Nat.le_refl _,fun _ _ _=>rfl⟩⟩
 | some a =>
  by_cases hroom:n+m<=cap
  ·have hfc:=run_firstCells_some (P:=P) w i.size m a m c vs (by rw [hs1,Nat.mul_one];exact hl) (hcell a rfl)
   obtain ⟨w',hst,q1,q2,q3,q4,q5,q6⟩:=Js9 (P:=P) g e n fz vs 0 w cur hg (fun k hk=>by
    rcases hfz with rfl|rfl
    ·simp
    ·simp only [fzOf,if_pos];simp;omega) (by omega) h1
   simp only [Nat.add_zero] at q1
   have hrun:(Builtin.append_ #[t,t] ty #[.slice (some ⟨g,0,none⟩) n cap,.slice (some a) m c]).run P w=.ok (.slice (some ⟨g,0,none⟩) (n+m) cap) w':=by
    have hfc':=hfc
    have hst':=hst
    simp [Builtin.append_,run_underlying ht,sizeOf,typeInfo,hi,Builtin.lenOf,hroom,hfc',Addr.add_lit,hs1] at hst' ⊢
    rw [hs1] at hfc'
    simp [hfc',hst']
   have hsz:(setL cur.toList n vs).toArray.size=cur.size:=by simp [Jn6]
   refine ⟨g,cap,(setL cur.toList n vs).toArray,w',hrun,⟨fz,by rw [hsz];exact hfz,q1⟩,by rw [hsz];exact hcs,hroom,hcm,?_,.inl rfl,⟨q4,q5,q6,by omega,fun k _ hk=>q2 k (fun e=>hk (by rw [e]))⟩⟩
   have hcl:cur.toList=xs++cur.toList.drop n:=by rw [<-htake,List.take_append_drop]
   have hdl:(cur.toList.drop n).length=cap - n:=by rw [List.length_drop,Array.length_toList,hcs]
   rw [hcl]
   have key:∀ (vs l pre:List Value),vs.length<=l.length->(setL (pre++l) pre.length vs).take (pre.length+vs.length)=pre++vs:=by
    intro vs
    induction vs with
    | nil=>intro l pre _;simp [setL]
    | cons v vs ih =>
     intro l pre hvl
     cases l with
     | nil=>simp at hvl
     | cons x l =>
      have e1:(pre++x::l).set pre.length v=(pre++[v])++l:=by simp
      simp only [setL,e1]
      have:=ih l (pre++[v]) (by simpa using hvl)
      simp only [List.length_append,List.length_cons,List.length_nil,Nat.zero_add] at this
      rw [show pre.length+(v::vs).length=pre.length+1+vs.length by simp;omega,this]
      simp
   have:=key vs (cur.toList.drop n) xs (by omega)
   rw [hxl,hl] at this
   simpa using this
  ·have holds:∀ j u,xs[j]?=some u->w.cell? ((⟨g,0,none⟩:Addr).add j)=some u:=fun j u hj=>by
    have hjl:=(List.getElem?_eq_some_iff.1 hj).1
    have hx:cur.toList[j]?=some u:=by
     rw [<-htake,List.getElem?_take] at hj
     split at hj
     ·exact hj
     ·cases hj
    rw [Jv0,cell_of_row w g j _ _ _ hg]
    simpa using hx
   obtain ⟨v',w',hr,hown,hgr⟩:=run_append_arg_grows (P:=P) w t ty e i z i.size i.bytes ht hi hz rfl rfl hzs (by omega) ⟨g,0,none⟩ n cap xs (by rw [hs1,Nat.mul_one];exact hxl) holds a m c vs (by rw [hs1,Nat.mul_one];exact hl) (hcell a rfl) (by omega) h63 hbytes
   rcases hown.2 with ⟨_,h0⟩|⟨g',cap',cur',rfl,hbg,hg',hnc,hcm',hcs',htake'⟩
   ·omega
   ·rw [hs1,Nat.mul_one] at hcs' htake'
    refine ⟨g',cap',cur',w',hr,RowAt.plain hg',hcs',hnc,hcm',htake',.inr hbg,⟨hgr.os,hgr.tape,hgr.output,hgr.size,fun k hk _=>hgr.block k hk (by simp)⟩⟩
theorem Qf3 {ρ:Env}{mem mem':Ja1}{w:World}(hm:RepM ρ mem w){t ty:TypeId}{s x z:AV}{us ux:Value}(h:Kp7 P t s x mem=some (z,mem'))(hs:VR ρ s us)(hx:VR ρ x ux) :
  ∃ v w' ρ',(Builtin.append_ #[t,t] ty #[us,ux]).run P w=.ok v w'/\VR ρ' z v/\RepM ρ' mem' w'/\Step mem ρ w mem' ρ' w':=by
 unfold Kp7 at h
 split at h
 ·rename_i e hu
  split at h
  ·rename_i size bytes z0 hsz hby hz
   unfold Jf5 at hsz;unfold Kq4 at hby;unfold Jc0 at hz
   simp only [Option.map_eq_some_iff,Option.bind_eq_some_iff] at hsz hby hz
   obtain ⟨i,hi,rfl⟩:=hsz
   obtain ⟨i',hi',rfl⟩:=hby
   obtain ⟨i'',hi'',hz⟩:=hz
   rw [hi] at hi' hi''
   injection hi' with e';injection hi'' with e''
   subst e';subst e''
   split at h
   ·rename_i hzc
    split at h
    ·rename_i m cs hsrc
     split at h
     ·rename_i hall
      obtain ⟨B,c,vs,rfl,hmc,hvs,hvl,hB,hcell⟩:=Ke5 hm hsrc hx
      have hone:=All2.one_of_isVal hvs hall
      split at h
      ·split at h
       ·rename_i hb
        injection h with h
        injection h with h1 h2
        subst h1;subst h2
        have e:us=_:=hs
        subst e
        obtain ⟨v',w',hrun,hown,hgr,hblk⟩:=Jt0 P (w:=w) 0 t ty e i z0 hu hi hz hzc.1 hzc.2 (.slice none 0 0) 0 [] (World.ownsRow_nil w 0 e i.size) B m c vs hvl hB hcell hone
         (by simp only [maxLen];omega) (by simpa using hb.2) (Nat.zero_le _)
        simp only [Nat.zero_add,List.nil_append] at hown
        obtain ⟨A,cap,rfl,hmcap,hA,hAb,hbr⟩:=Kb2 (r:=mem.length) (ver:=0) hown hzc.2 hvs
        have hle:ρ.le (ρ.set mem.length 0 (A,cap)):=Env.le_set (hm.dom _ _ (Nat.le_refl _))
        have hAge:∀ x,A=some x->w.heap.size<=x.block:=by
         intro x hx
         have:=hAb x hx
         rcases hblk with h|h
         ·rw [this] at h;simp [Value.ownBlock] at h
         ·rw [this] at h;injection h with h;omega
        obtain ⟨g1,g2⟩:=hm.new' (w':=w') hgr.os hgr.tape hgr.output hgr.size (fun k hk=>hgr.block k hk (by simp [Value.ownBlock])) ⟨.grow,e,0,i.size,cs⟩ A cap hAge (by simp) (hbr _ (fun _ _=>VC.mono hle) (Env.set_same _ _ _ _))
        refine ⟨_,_,_,hrun,⟨A,cap,A,cap,Env.set_same _ _ _ _,rfl,hmcap,fun hpos=>?_,fun _=>⟨rfl,rfl⟩⟩,g1,g2⟩
        cases A with
        | none=>have:=(hA rfl).2;omega
        | some a=>exact ⟨a,rfl,by simp [Addr.add]⟩
       ·cases h
      ·rename_i r ver off n
       split at h
       ·rename_i b hb
        split at h
        ·rename_i hk
         split at h
         ·rename_i hc
          obtain ⟨c1,c2,c3,c4,c5,c6,c7⟩:=hc
          subst c1;subst c4
          injection h with h
          injection h with h1 h2
          subst h1;subst h2
          obtain ⟨A0,k0,B0,c0',ha,rfl,hlen0,hB0,h00⟩:=hs
          obtain ⟨rfl,rfl⟩:=h00 rfl
          have hbk:=hm.blk r b hb
          unfold BlkR at hbk
          rw [hk] at hbk
          simp only at hbk
          obtain ⟨xs,hxs,hown⟩:∃ xs,All2 (VC ρ) b.cells xs/\w.ownsRow 0 e i.size (.slice B0 n c0') n xs:=by
           rcases hbk with ⟨q1,q2⟩|⟨g,cc,cap,xs,sp,q1,q2,q3,q4,q5,q6⟩
           ·rw [q2] at ha;injection ha with ha;injection ha with ha1 ha2
            subst ha1;subst ha2
            have hn0:n=0:=by
             rw [q1] at c5
             rcases Nat.mul_eq_zero.1 c5.symm with h|h
             ·exact h
             ·omega
            subst hn0
            exact ⟨[],by rw [q1];trivial,World.ownsRow_nil w 0 e i.size⟩
           ·rw [q1] at ha;injection ha with ha;injection ha with ha1 ha2
            subst ha1;subst ha2
            have hxl:xs.length=n*i.size:=by rw [<-q6.length,c5]
            refine ⟨xs,q6,hxl,.inr ⟨g,cap,cc,rfl,Nat.zero_le _,by rw [<-c2];exact q2.pos (by omega),hlen0,q4,by rw [<-c3];rw [Jt6 (by omega)] at q3;exact q3,?_⟩⟩
            rw [q5,<-hxl,List.take_left]
          obtain ⟨v',w',hrun,hown',hgr,hblk⟩:=Jt0 P (w:=w) 0 t ty e i z0 hu hi hz hzc.1 hzc.2 (.slice B0 n c0') n xs hown B m c vs hvl hB hcell hone (by simp only [maxLen];omega) c7 (Nat.zero_le _)
          obtain ⟨A,cap,rfl,hmcap,hA,hAb,hbr⟩:=Kb2 (r:=r) (ver:=b.ver+1) hown' hzc.2 (hxs.append hvs)
          have hle:ρ.le (ρ.set r (b.ver+1) (A,cap)):=Env.le_set (hm.domv r b _ hb (by omega))
          have hAge:∀ x,A=some x->w.heap.size<=x.block\/∃ y l,ρ r b.ver=some (some y,l)/\y.block=x.block:=by
           intro x hx
           have h1:=hAb x hx
           rcases hblk with h|h
           ·rw [h1] at h
            cases B0 with
            | none=>simp [Value.ownBlock] at h
            | some y=>simp [Value.ownBlock] at h;exact .inr ⟨y,_,ha,h.symm⟩
           ·rw [h1] at h;injection h with h;exact .inl (by omega)
          obtain ⟨g1,g2⟩:=hm.regrow (w':=w') hgr.os hgr.tape hgr.output hgr.size hb hk (fun k hk1 hne=>hgr.block k hk1 (fun e=>by
            cases B0 with
            | none=>simp [Value.ownBlock] at e
            | some y=>simp [Value.ownBlock] at e;exact hne y _ ha e.symm)) ⟨.grow,e,b.ver+1,i.size,b.cells++cs⟩ rfl rfl A cap hAge (hbr _ (fun _ _=>VC.mono hle) (Env.set_same _ _ _ _))
          refine ⟨_,_,_,hrun,⟨A,cap,A,cap,Env.set_same _ _ _ _,rfl,hmcap,fun hpos=>?_,fun _=>⟨rfl,rfl⟩⟩,g1,g2⟩
          cases A with
          | none=>have:=(hA rfl).2;omega
          | some a=>exact ⟨a,rfl,by simp [Addr.add]⟩
         ·split at h
          ·rename_i hc
           obtain ⟨c1,c2,c3,hs1,c4,c5,c6,c7⟩:=hc
           subst c1;subst c4
           injection h with h
           injection h with h1 h2
           subst h1;subst h2
           obtain ⟨A0,k0,B0,c0',ha,rfl,hlen0,hB0,h00⟩:=hs
           obtain ⟨rfl,rfl⟩:=h00 rfl
           have hbk:=hm.blk r b hb
           unfold BlkR at hbk
           rw [hk] at hbk
           simp only at hbk
           rcases hbk with ⟨q1,q2⟩|⟨g,cc,cap,xs,sp,q1,q2,q3,q4,q5,q6⟩
           ·rw [q2] at ha;injection ha with ha;injection ha with ha1 ha2
            subst ha1;subst ha2
            have hn0:n=0:=by rw [q1] at c5;simpa using c5.symm
            subst hn0
            obtain ⟨v',w',hrun,hown',hgr,hblk⟩:=Jt0 P (w:=w) 0 t ty e i z0 hu hi hz hzc.1 hzc.2 (.slice none 0 0) 0 [] (World.ownsRow_nil w 0 e i.size) B m c vs hvl hB hcell hone (by simp only [maxLen];omega) c7 (Nat.zero_le _)
            obtain ⟨A,cap,rfl,hmcap,hA,hAb,hbr⟩:=Kb2 (r:=r) (ver:=b.ver+1) hown' hzc.2 (show All2 (VC ρ) ([]++cs) ([]++vs) from hvs)
            have hle:ρ.le (ρ.set r (b.ver+1) (A,cap)):=Env.le_set (hm.domv r b _ hb (by omega))
            have hAge:∀ x,A=some x->w.heap.size<=x.block\/∃ y l,ρ r b.ver=some (some y,l)/\y.block=x.block:=by
             intro x hx
             have h1:=hAb x hx
             rcases hblk with h|h
             ·rw [h1] at h;simp [Value.ownBlock] at h
             ·rw [h1] at h;injection h with h;exact .inl (by omega)
            have hbr0:=hbr _ (fun _ _=>VC.mono hle) (Env.set_same _ _ _ _)
            obtain ⟨g1,g2⟩:=hm.regrow (w':=w') hgr.os hgr.tape hgr.output hgr.size hb hk (fun k hk1 hne=>hgr.block k hk1 (fun e=>by simp [Value.ownBlock] at e)) ⟨.grow,e,b.ver+1,0,b.cells++cs⟩ rfl rfl A cap hAge (by
             rcases hbr0 with h|⟨n1,c1,cap1,xs1,sp1,p1,p2,p3,p4⟩
             ·exact .inl ⟨by rw [q1];exact h.1,h.2⟩
             ·refine .inr ⟨n1,c1,cap1,xs1,sp1,p1,RowAt.plain (p2.pos (show i.size≠0 by omega)),?_,p4.1,p4.2.1,by rw [q1];exact p4.2.2⟩
              show _=cap1*Jt7 0
              rw [p3]
              show cap1*Jt7 i.size=_
              rw [hs1];rfl)
            refine ⟨_,_,_,hrun,⟨A,cap,A,cap,Env.set_same _ _ _ _,rfl,hmcap,fun hpos=>?_,fun _=>⟨rfl,rfl⟩⟩,g1,g2⟩
            cases A with
            | none=>have:=(hA rfl).2;omega
            | some a=>exact ⟨a,rfl,by simp [Addr.add]⟩
           ·rw [q1] at ha;injection ha with ha;injection ha with ha1 ha2
            subst ha1;subst ha2
            have hxl:xs.length=n:=by rw [<-q6.length,c5]
            rw [c3] at q2 q3
            rw [c2] at q2
            rw [show Jt7 0=1 from rfl,Nat.mul_one] at q3
            obtain ⟨g',cap',cur',w',hrun,r1,r2,r3,r4,r5,r6,hgr⟩:=Ku5 P (w:=w) t ty e i z0 hu hi hz hzc.1 hs1 g n _ cc q2 q3 q4 hlen0 xs hxl (by rw [q5,<-hxl,List.take_left]) B m c vs hvl hB hcell hone (by simp only [maxLen];omega) c7
            have hle:ρ.le (ρ.set r (b.ver+1) (some ⟨g',0,none⟩,cap')):=Env.le_set (hm.domv r b _ hb (by omega))
            obtain ⟨g1,g2⟩:=hm.regrow (w':=w') hgr.os hgr.tape hgr.output hgr.size hb hk (fun k hk1 hne=>hgr.block k hk1 (fun e=>by injection e with e;exact hne _ _ q1 e.symm)) ⟨.grow,e,b.ver+1,0,b.cells++cs⟩ rfl rfl (some ⟨g',0,none⟩) cap' (fun x hx=>by
              injection hx with hx;subst hx
              rcases r6 with rfl|r6
              ·exact .inr ⟨_,_,q1,rfl⟩
              ·exact .inl r6) (.inr ⟨g',cur',cap',xs++vs,cur'.toList.drop (n+m),Env.set_same _ _ _ _,r1,by show _=cap'*Jt7 0;rw [show Jt7 0=1 from rfl,Nat.mul_one];exact r2,r4,by rw [<-r5,List.take_append_drop],(q6.append hvs).mono fun _ _=>VC.mono hle⟩)
            exact ⟨_,_,_,hrun,⟨_,_,_,_,Env.set_same _ _ _ _,rfl,r3,fun _=>⟨_,rfl,by simp [Addr.add]⟩,fun _=>⟨rfl,rfl⟩⟩,g1,g2⟩
          ·cases h
        ·cases h
       ·cases h
      ·cases h
     ·cases h
    ·cases h
   ·cases h
  ·cases h
 ·cases h
def Yc4 (ns:List Int):Bool:=ns.all fun x=>decide (0<=x/\x<=255)
theorem Xc6 (ns:List Int):Xr8 ns=⟨(ns.map fun n=>UInt8.ofNat n.toNat).toArray⟩:=by
 have h:∀ (ns:List Int) (r:ByteArray),ns.foldl (fun r n=>r.push (UInt8.ofNat n.toNat)) r=⟨r.data++(ns.map fun n=>UInt8.ofNat n.toNat).toArray⟩:=by
  intro ns
  induction ns with
  | nil=>intro r;simp
  | cons n ns ih=>intro r;rw [List.foldl_cons,ih];congr 1;simp [ByteArray.push]
 unfold Xr8;rw [h]
 have:ByteArray.empty.data=#[]:=rfl
 rw [this,Array.empty_append]
def usdA (x:AV):Option AV :=
 match x with
 | .one .nils=>some (.one .nilp)
 | .one (.sl r ver off n)=>if 0<n then some (.one (.ptr r ver off)) else none
 | _=>none
theorem Vm8 {ρ:Env}{t ty:TypeId}{x z:AV}{u:Value}(h:usdA x=some z)(hx:VR ρ x u)(w:World):∃ v,(Builtin.unsafeSliceData_ #[t] ty #[u]).run P w=.ok v w/\VR ρ z v:=by
 unfold usdA at h
 split at h
 ·injection h with h;subst h
  have e:u=_:=hx
  subst e
  exact ⟨_,Lib.run_unsafeSliceData_nil w _ _ _ _,rfl⟩
 ·rename_i r ver off n
  split at h
  ·rename_i hn
   injection h with h;subst h
   obtain ⟨A,c0,B,c,h1,rfl,hc,h2,_⟩:=hx
   obtain ⟨a,rfl,rfl⟩:=h2 hn
   exact ⟨_,Lib.run_unsafeSliceData_row w _ _ _ _ _ (by omega),a,c0,h1,rfl⟩
  ·cases h
 ·cases h
def usA (t:TypeId)(x n:AV)(mem:Ja1):Option (AV × Ja1) :=
 match x,n with
 | .one .nilp,.one (.int .i64 n)=>if n=0 then some (.one (.str ByteArray.empty),mem) else none
 | .one (.ptr r ver off),.one (.int .i64 n)=>match mem[r]? with
  | some b=>match b.kind with
   | .grow=>match Kp5 b.cells,P.underlying t with
    | some ns,some (.pointer e)=>if e=b.ty/\P.cellsOf b.ty=1/\ver=b.ver/\off=0/\b.esz=1/\((ns.length:Nat):Int)=n/\0<n/\Yc4 ns=true then
      some (.one (.str (Xr8 ns)),mem.set r ⟨.grow,b.ty,b.ver+1,1,[]⟩) else none
    | _,_=>none
   | _=>none
  | none=>none
 | _,_=>none
theorem Xe4 {ρ:Env}{mem mem':Ja1}{w:World}(hm:RepM ρ mem w){t t2 ty:TypeId}{x n z:AV}{ux un:Value}(h:usA P t x n mem=some (z,mem'))(hx:VR ρ x ux)(hn:VR ρ n un) :
  ∃ v w' ρ',(Builtin.unsafeString_ #[t,t2] ty #[ux,un]).run P w=.ok v w'/\VR ρ' z v/\RepM ρ' mem' w'/\Step mem ρ w mem' ρ' w':=by
 unfold usA at h
 split at h
 ·rename_i n
  have e1:ux=_:=hx
  have e2:un=_:=hn
  subst e1;subst e2
  split at h
  ·rename_i h0;subst h0
   injection h with h;injection h with h1 h2;subst h1;subst h2
   exact ⟨_,w,ρ,Lib.run_unsafeString_none w _ _ _ _,rfl,hm,Step.refl _ _ _⟩
  ·cases h
 ·rename_i r ver off n
  have e2:un=_:=hn
  subst e2
  split at h
  ·rename_i b hb
   split at h
   ·rename_i hk
    split at h
    ·rename_i ns e hns hp
     split at h
     ·rename_i hc
      obtain ⟨rfl,hcell,rfl,rfl,hez,hlen,hpos,hok⟩:=hc
      injection h with h;injection h with h1 h2;subst h1;subst h2
      obtain ⟨a,kk,ha,rfl⟩:=hx
      have hbk:=hm.blk r b hb
      unfold BlkR at hbk
      rw [hk] at hbk
      simp only at hbk
      rcases hbk with ⟨q1,q2⟩|⟨g,cc,cap,xs,sp,q1,q2,q3,q4,q5,q6⟩
      ·rw [q2] at ha;injection ha with ha;injection ha with ha1 ha2;cases ha1
      ·rw [q1] at ha;injection ha with ha;injection ha with ha1 ha2
       injection ha1 with ha1
       subst ha1
       replace q2:=q2.pos (by omega)
       rw [Jt6 (by omega)] at q3
       have hxs:=Jy5 hns q6
       have hg:g<w.heap.size:=by
        rcases Nat.lt_or_ge g w.heap.size with h|h
        ·exact h
        ·rw [Array.getElem?_eq_none h] at q2;cases q2
       have hbyte:∀ x,x ∈ ns->0<=x/\x<=255:=fun x hx=>by
        have:=List.all_eq_true.1 hok x hx;simpa using this
       have hxl:xs.length=ns.length:=by rw [hxs];simp
       have hcs':xs.length<=cc.size:=by
        rw [<-Array.length_toList,q5];simp
       have hcap:xs.length<=cap:=by rw [q3,hez] at hcs';omega
       generalize hl:(ns.map fun n=>UInt8.ofNat n.toNat)=l
       have hll:l.length=ns.length:=by rw [<-hl];simp
       have hcl:∀ j x,l[j]?=some x->w.cell? ((⟨g,0,none⟩:Addr).add j)=some (.int .u8 x.toNat):=fun j x hj=>by
        rw [<-hl,List.getElem?_map,Option.map_eq_some_iff] at hj
        obtain ⟨y,hy,rfl⟩:=hj
        have hx1:xs[j]?=some (.int .u8 y):=by rw [hxs,List.getElem?_map,hy];rfl
        have hx2:cc[j]?=some (.int .u8 y):=by
         rw [<-Array.getElem?_toList,q5,List.getElem?_append_left (List.getElem?_eq_some_iff.1 hx1).1];exact hx1
        have hb2:=hbyte y (List.mem_of_getElem? hy)
        have hy2:(((UInt8.ofNat y.toNat).toNat:Nat):Int)=y:=by
         rw [UInt8.toNat_ofNat'];omega
        rw [hy2]
        have:w.cell? ((⟨g,0,none⟩:Addr).add j)=cc[j]?:=by
         have hadd:((⟨g,0,none⟩:Addr).add j)=⟨g,j,none⟩:=by
          unfold Addr.add;split
          ·rename_i h;rw [h]
          ·simp
         rw [hadd];simp [World.cell?,q2]
        rw [this];exact hx2
       have hne:l≠[]:=fun e=>by
        rw [e] at hll;simp at hll;omega
       have hrun:=Lib.run_unsafeString_row (P:=P) w t t2 ty b.ty hp hcell g cc.size (by simp [World.shape?,q2]) l hne (by omega) (by unfold maxLen at q4;omega) hcl
       have hn1:n=(l.length:Int):=by rw [hll];exact hlen.symm
       have hadd:(⟨g,0,none⟩:Addr).add 0=⟨g,0,none⟩:=by simp [Addr.add]
       rw [hn1,hadd]
       have hs:Xr8 ns=⟨l.toArray⟩:=by rw [Xc6,hl]
       have hfr:∀ k,k≠g->(w.freeze ⟨g,0,none⟩ l.length).heap[k]?=w.heap[k]?:=fun k hk1=>by
        unfold World.freeze
        split
        ·rfl
        ·simp only [Array.getElem?_modify];rw [if_neg (fun e=>hk1 e.symm)]
       obtain ⟨g1,g2⟩:=hm.regrow (w':=w.freeze ⟨g,0,none⟩ l.length) (by unfold World.freeze;split<;>rfl) (by unfold World.freeze;split<;>rfl) (by unfold World.freeze;split<;>rfl) (by unfold World.freeze;split<;>simp)
        hb hk (fun k hk1 hne=>hfr k fun e=>hne _ _ q1 e.symm) ⟨.grow,b.ty,b.ver+1,1,[]⟩ rfl rfl none 0 (fun x hx=>by cases hx) (.inl ⟨rfl,Env.set_same _ _ _ _⟩)
       exact ⟨_,_,_,hrun,hs ▸ rfl,g1,g2⟩
     ·cases h
    ·cases h
   ·cases h
  ·cases h
 ·cases h
def strC (s:ByteArray):List CV:=s.data.toList.map fun b=>.int .u8 b.toNat
def Qh0 (src dst:TypeId)(x:AV)(mem:Ja1):Option (AV × Ja1) :=
 match P.underlying src,P.underlying dst with
 | some (.slice _),some (.slice e)=>match P.underlying e,x with
  | some (.int .u8),.one (.sl r ver off n)=>match mem[r]? with
   | some b=>match b.kind with
    | .grow=>if src=dst/\ver=b.ver/\b.esz=1/\0<n then some (x,mem.set r ⟨.grow,b.ty,b.ver,0,b.cells⟩) else none
    | _=>none
   | none=>none
  | _,_=>none
 | some .string,some (.slice e)=>match P.underlying e,x with
  | some (.int .u8),.one (.str s)=>if s.size<=140737488355328 then some (.one (.sl mem.length 0 0 s.size),mem++[⟨.grow,e,0,0,strC s⟩]) else none
  | _,_=>none
 | _,_=>(Qh1 P src dst x mem).map fun z=>(z,mem)
theorem Kr7 {ρ:Env}:∀ l:List UInt8,All2 (VC ρ) (l.map fun b=>CV.int .u8 b.toNat) (l.map fun b=>Value.int .u8 b.toNat)
 | []=>trivial
 | _::l=>⟨rfl,Kr7 l⟩
theorem Qz3 {ρ:Env}{mem mem':Ja1}{w:World}(hm:RepM ρ mem w){src dst:TypeId}{x z:AV}{u:Value}(h:Qh0 P src dst x mem=some (z,mem'))(hx:VR ρ x u) :
  ∃ v w' ρ',(convert src dst u).run P w=.ok v w'/\VR ρ' z v/\RepM ρ' mem' w'/\Step mem ρ w mem' ρ' w':=by
 unfold Qh0 at h
 split at h
 ·rename_i e0 e hs hd
  split at h
  ·rename_i r ver off n he
   split at h
   ·rename_i b hb
    split at h
    ·rename_i hk
     split at h
     ·rename_i hc
      obtain ⟨rfl,rfl,hez,hpos⟩:=hc
      injection h with h;injection h with h1 h2;subst h1;subst h2
      obtain ⟨A,c0,B,c,h1,rfl,hnc,hB,h00⟩:=id hx
      obtain ⟨a,rfl,rfl⟩:=hB hpos
      have hbk:=hm.blk r b hb
      unfold BlkR at hbk
      rw [hk] at hbk
      simp only at hbk
      rcases hbk with ⟨q1,q2⟩|⟨g,cc,cap,xs,sp,q1,q2,q3,q4,q5,q6⟩
      ·rw [q2] at h1;injection h1 with h1;injection h1 with h1 _;cases h1
      ·rw [q1] at h1;injection h1 with h1;injection h1 with h1 h2
       injection h1 with h1;subst h1
       replace q2:=q2.pos (by omega)
       rw [Jt6 (by omega),hez,Nat.mul_one] at q3
       have hadd:((⟨g,0,none⟩:Addr).add off)=⟨g,off,none⟩:=by
        unfold Addr.add;split
        ·rename_i h;rw [h]
        ·simp
       rw [hadd] at hx ⊢
       have hrl:r<mem.length:=(List.getElem?_eq_some_iff.1 hb).1
       have hsh:w.shape? g=some (b.ty,cc.size):=by simp [World.shape?,q2]
       have hun:e0=e:=by rw [hs] at hd;injection hd with hd;injection hd
       subst hun
       generalize hw':w.freeze ⟨g,cc.size,none⟩ 1=w'
       have hrun:(convert src src (.slice (some ⟨g,off,none⟩) n c)).run P w=.ok (.slice (some ⟨g,off,none⟩) n c) w':=by
        rw [<-hw']
        simp [convert,run_underlying hs,run_underlying he,markStringish,hsh]
       have hg':w'.heap[g]?=some (.cells cc b.ty (cc.size,cc.size+1)):=by
        rw [<-hw']
        unfold World.freeze
        rw [if_neg (by decide)]
        simp [Array.getElem?_modify,q2]
       have hfr:∀ k,k≠g->w'.heap[k]?=w.heap[k]?:=fun k hk1=>by
        rw [<-hw']
        unfold World.freeze
        rw [if_neg (by decide)]
        simp only [Array.getElem?_modify];rw [if_neg (fun e=>hk1 e.symm)]
       have hsz:w'.heap.size=w.heap.size:=by
        rw [<-hw']
        unfold World.freeze
        rw [if_neg (by decide)];simp
       have hrest:w'.os=w.os/\w'.tape=w.tape/\w'.output=w.output:=by
        rw [<-hw']
        unfold World.freeze
        rw [if_neg (by decide)];exact ⟨rfl,rfl,rfl⟩
       have hgt:∀ {s:Nat} {d:Blk},(mem.set r ⟨.grow,b.ty,b.ver,0,b.cells⟩)[s]?=some d->(s≠r/\mem[s]?=some d)\/(s=r/\d=⟨.grow,b.ty,b.ver,0,b.cells⟩):=by
        intro s d hd
        by_cases hs:s=r
        ·subst hs;rw [List.getElem?_set_self hrl] at hd;injection hd with hd;exact .inr ⟨rfl,hd.symm⟩
        ·rw [List.getElem?_set_ne (fun e=>hs e.symm)] at hd;exact .inl ⟨hs,hd⟩
       have hkr:b.kind≠.ro:=by rw [hk];intro e;cases e
       refine ⟨_,w',ρ,hrun,hx,⟨fun s d hd=>?_,fun s v hs=>hm.dom s v (by simpa using hs),fun s d v hd hv=>?_,fun s t d e2 hd he2 hne hkd hke x y i k hxx hyy=>?_⟩,
        ⟨hrest.1,hrest.2.1,hrest.2.2,by omega,by simp,fun _ _ _ _ h=>h,fun s d d' h1 h2=>?_,fun s d h1 h2=>?_,fun n1 hn1 hne1=>?_,fun s d x k h1 h2 h3=>?_⟩⟩
       ·rcases hgt hd with ⟨hs1,h1⟩|⟨e1,e2⟩
        ·refine (hm.blk s d h1).heap (by omega) fun x l hx hne _=>hfr _ ?_
         exact fun e=>hm.sep r s b d hb h1 (fun e=>hs1 e.symm) hkr hne _ _ _ _ q1 hx e.symm
        ·subst e1;subst e2
         refine .inr ⟨g,cc,cap,xs,sp,q1,⟨_,.inr rfl,hg'⟩,?_,q4,q5,q6⟩
         show cc.size=cap*Jt7 0
         rw [show Jt7 0=1 from rfl,Nat.mul_one];exact q3
       ·rcases hgt hd with ⟨_,h1⟩|⟨e1,e2⟩
        ·exact hm.domv s d v h1 hv
        ·subst e1;subst e2;exact hm.domv s b v hb hv
       ·rcases hgt hd with ⟨_,h1⟩|⟨e1,e2⟩<;>rcases hgt he2 with ⟨_,h3⟩|⟨e3,e4⟩
        ·exact hm.sep s t d e2 h1 h3 hne hkd hke x y i k hxx hyy
        ·subst e3;subst e4;exact hm.sep s t d b h1 hb hne hkd (fun e=>absurd e hkr) x y i k hxx hyy
        ·subst e1;subst e2;exact hm.sep s t b _ hb h3 hne hkr hke x y i k hxx hyy
        ·exact absurd (e1.trans e3.symm) hne
       ·rcases hgt h2 with ⟨_,h3⟩|⟨e1,e2⟩
        ·rw [h1] at h3;injection h3 with h3;rw [h3]
        ·subst e1;subst e2;rw [hb] at h1;injection h1 with h1;rw [<-h1,hk]
       ·rcases hgt h1 with ⟨_,h3⟩|⟨e1,e2⟩
        ·exact h3
        ·subst e2;cases h2
       ·exact hfr n1 (fun e=>hne1 r b _ _ hb hkr q1 (by rw [e]))
       ·rcases hgt h1 with ⟨_,h4⟩|⟨e1,e2⟩
        ·exact .inr ⟨s,d,x,k,h4,h2,h3,rfl⟩
        ·subst e1;subst e2;exact .inr ⟨s,b,x,k,hb,hkr,h3,rfl⟩
     ·cases h
    ·cases h
   ·cases h
  ·cases h
 ·rename_i e hs hd
  split at h
  ·rename_i s he
   split at h
   ·rename_i hsz
    injection h with h;injection h with h1 h2;subst h1;subst h2
    have e1:u=_:=hx
    subst e1
    have hrun:=Lib.run_convert_string_bytes (P:=P) w src dst e s hs hd he
    have hcm:=grownCap_le_maxLen w s.size 0 e (by unfold maxLen;omega)
    have hcg:=grownCap_ge w s.size 0 e
    have hcs:(Lib.bytesCells w e s).size=grownCap w s.size 0 e:=by
     simp only [Lib.bytesCells,Array.size_append,Array.size_map,Array.size_replicate]
     have:s.data.size=s.size:=rfl
     omega
    obtain ⟨g1,g2⟩:=hm.new' (w':=Lib.bytesWorld w e s) (by unfold Lib.bytesWorld World.freeze;rfl) (by unfold Lib.bytesWorld World.freeze;rfl) (by unfold Lib.bytesWorld World.freeze;rfl)
     (by rw [Lib.bytesWorld_size];omega) (fun k hk=>Lib.bytesWorld_at_old w e s k hk) ⟨.grow,e,0,0,strC s⟩ (some ⟨w.heap.size,0,none⟩) (grownCap w s.size 0 e) (fun x hx=>by injection hx with hx;rw [<-hx];exact Nat.le_refl _) (by simp)
     (.inr ⟨w.heap.size,Lib.bytesCells w e s,grownCap w s.size 0 e,s.data.toList.map fun b=>Value.int .u8 b.toNat,_,Env.set_same _ _ _ _,⟨_,.inr rfl,Lib.bytesWorld_at_new w e s⟩,by show _=_*Jt7 0;rw [show Jt7 0=1 from rfl,Nat.mul_one];exact hcs,hcm,by simp only [Lib.bytesCells,Array.toList_append,Array.toList_map];rfl,Kr7 _⟩)
    refine ⟨_,_,_,hrun,⟨_,_,_,_,Env.set_same _ _ _ _,rfl,hcg,fun _=>⟨_,rfl,by simp [Addr.add]⟩,fun _=>⟨rfl,rfl⟩⟩,g1,g2⟩
   ·cases h
  ·cases h
 ·simp only [Option.map_eq_some_iff] at h
  obtain ⟨q,hq,h⟩:=h
  injection h with h1 h2;subst h1;subst h2
  obtain ⟨v,h1,h2⟩:=Qz4 P hm hq hx
  exact ⟨v,w,ρ,h1,h2,hm,Step.refl _ _ _⟩
theorem Vh4 {src dst:TypeId}{x z:AV}{M:Ja1}(h:Qh0 P src dst x []=some (z,[])):Qh0 P src dst x M=some (z,M):=by
 unfold Qh0 at h ⊢
 split
 ·rename_i e0 e hs hd
  simp only [hs,hd] at h
  split at h
  ·simp at h
  ·cases h
 ·rename_i e hs hd
  simp only [hs,hd] at h
  split at h
  ·split at h
   ·injection h with h;injection h with _ h;simp at h
   ·cases h
  ·cases h
 ·rename_i h1 h2
  split at h
  ·rename_i e0 e hs hd;exact (h1 e0 e hs hd).elim
  ·rename_i e hs hd;exact (h2 e hs hd).elim
  ·simp only [Option.map_eq_some_iff,Prod.mk.injEq] at h ⊢
   obtain ⟨a,h3,h4⟩:=h
   exact ⟨a,Vh5 P h3,h4.1,trivial⟩
end
theorem RepM.turn {ρ:Env}{mem:Ja1}{w w':World}(h:RepM ρ mem w){r:Nat}{b:Blk}(hb:mem[r]?=some b)(hk:b.kind≠.ro){n k:Nat}(ha:ρ r b.ver=some (some ⟨n,0,none⟩,k))(b':Blk)
  (htag:b'.kind.tag=b.kind.tag) (hver:b'.ver=b.ver) (hoth:∀ m,m≠n->w'.heap[m]?=w.heap[m]?) (hsize:w'.heap.size=w.heap.size) (hos:w'.os=w.os) (htape:w'.tape=w.tape) (hout:w'.output=w.output)
  (hnew:BlkR ρ w' r b'):RepM ρ (mem.set r b') w'/\Step mem ρ w (mem.set r b') ρ w':=by
 have hrl:r<mem.length:=(List.getElem?_eq_some_iff.1 hb).1
 have hk':b'.kind≠.ro:=fun e=>hk ((BK.tag_eq_ro htag).1 e)
 have hgt:∀ {s:Nat} {d:Blk},(mem.set r b')[s]?=some d->(s≠r/\mem[s]?=some d)\/(s=r/\d=b'):=by
  intro s d hd
  by_cases hs:s=r
  ·subst hs
   rw [List.getElem?_set_self hrl] at hd
   injection hd with hd
   exact .inr ⟨rfl,hd.symm⟩
  ·rw [List.getElem?_set_ne (fun e=>hs e.symm)] at hd
   exact .inl ⟨hs,hd⟩
 refine ⟨⟨?_,?_,?_,?_⟩,⟨hos,htape,hout,by omega,by simp,fun _ _ _ _ h=>h,?_,?_,?_,?_⟩⟩
 ·intro s d hd
  rcases hgt hd with ⟨hs,hd⟩|⟨rfl,rfl⟩
  ·refine (h.blk s d hd).heap (by omega) fun x l hx hne _=>hoth _ ?_
   exact fun e=>h.sep r s b d hb hd (fun e=>hs e.symm) hk hne _ _ _ _ ha hx e.symm
  ·exact hnew
 ·intro s v hs;exact h.dom s v (by simpa using hs)
 ·intro s d v hd hv
  rcases hgt hd with ⟨hs,hd⟩|⟨rfl,rfl⟩
  ·exact h.domv s d v hd hv
  ·exact h.domv s b v hb (by omega)
 ·intro s t d e hd he hst hkd hne x y k1 k2 hx hy
  rcases hgt hd with ⟨hs,hd1⟩|⟨e1,e2⟩<;>rcases hgt he with ⟨ht,he1⟩|⟨e3,e4⟩
  ·exact h.sep s t d e hd1 he1 hst hkd hne x y k1 k2 hx hy
  ·subst e3;subst e4;rw [hver] at hy;exact h.sep s t d b hd1 hb hst hkd (fun e=>absurd e hk) x y k1 k2 hx hy
  ·subst e1;subst e2;rw [hver] at hx;exact h.sep s t b e hb he1 hst hk hne x y k1 k2 hx hy
  ·exact absurd (e1.trans e3.symm) hst
 ·intro s d d' hd hd'
  rcases hgt hd' with ⟨hs,hd'⟩|⟨rfl,rfl⟩
  ·rw [hd] at hd';injection hd' with e;rw [e]
  ·rw [hb] at hd;injection hd with e;rw [<-e];exact htag
 ·intro s d hd hro
  rcases hgt hd with ⟨hs,hd1⟩|⟨e1,e2⟩
  ·exact hd1
  ·subst e2;exact absurd hro hk'
 ·intro m hm hne
  exact hoth m (fun e=>hne r b _ _ hb hk ha (by rw [e]))
 ·intro s d x l hd hkd hx
  rcases hgt hd with ⟨hs,hd⟩|⟨rfl,rfl⟩
  ·exact .inr ⟨s,d,x,l,hd,hkd,hx,rfl⟩
  ·rw [hver] at hx;exact .inr ⟨s,b,x,l,hb,hk,hx,rfl⟩
def mkA:Bool->List CV->AV
 | true,cs=>.agg cs
 | false,[c]=>.one c
 | false,_=>.one .junk
theorem TV.mkA {ρ:Env}{b:Bool}{cs:List CV}{v:Value}(h:TV ρ (b,cs) v):VR ρ (Eng.mkA b cs) v:=by
 cases b with
 | true=>exact h
 | false =>
  match cs,h with
  | [],_=>trivial
  | [c],h=>exact h
  | _::_::_,_=>trivial
def AV.ent:AV->Option (Bool × List CV)
 | .one c=>some (false,[c])
 | .agg cs=>some (true,cs)
 | .tup _=>none
theorem VR.ent {ρ:Env}{x:AV}{v:Value}(h:VR ρ x v){t:Bool × List CV}(ht:x.ent=some t):TV ρ t v:=by
 cases x with
 | one c=>injection ht with ht;subst ht;exact h
 | agg cs=>injection ht with ht;subst ht;exact h
 | tup ts=>cases ht
theorem AV.ent_ok {x:AV}{t:Bool × List CV}(ht:x.ent=some t):(t.1 || t.2.length ==1)=true:=by
 cases x with
 | one c=>injection ht with ht;subst ht;rfl
 | agg cs=>injection ht with ht;subst ht;rfl
 | tup ts=>cases ht
def ceq:CV->CV->Option Bool
 | .int k a,.int k' b=>if k=k' then some (a ==b) else none
 | .bool a,.bool b=>some (a ==b)
 | .str a,.str b=>some (a ==b)
 | _,_=>none
def Jh5:List CV->List CV->Option Bool
 | [],[]=>some true
 | a::l,b::r=>match ceq a b,Jh5 l r with
  | some p,some q=>some (p&&q)
  | _,_=>none
 | _,_=>none
def Jy3 (k:List CV):List (Nat × List CV × List CV)->Option (Option Nat)
 | []=>some none
 | e::es=>match Jh5 k e.2.1 with
  | some true=>some (some 0)
  | some false=>(Jy3 k es).map (Option.map (· + 1))
  | none=>none
section
variable (P:Program)
def scI (t:TypeId):CV->Bool
 | .int _ _=>match P.underlying t with|some (.int _)=>true|_=>false
 | .bool _=>match P.underlying t with|some .bool=>true|_=>false
 | _=>false
def scT (t:TypeId):CV->Bool
 | .int _ _=>match P.underlying t with|some (.int _)=>true|_=>false
 | .bool _=>match P.underlying t with|some .bool=>true|_=>false
 | .str _=>match P.underlying t with|some .string=>true|_=>false
 | _=>false
def Jj2 (t:TypeId)(ka:Bool)(cs:List CV):Bool :=
 match ka,cs with
 | false,[c]=>scT P t c
 | true,cs=>match P.underlying t with
  | some (.array n e)=>decide (Jf5 P e=some 1)&&decide (Jd2 P e=some false)&&cs.length ==n&&cs.all (scI P e)
  | _=>false
 | _,_=>false
variable {P}
theorem Qj2 {t:TypeId}{c:CV}(h:scT P t c=true):∃ d,P.underlying t=some d/\((∃ k k' a,d=.int k/\c=.int k' a)\/(∃ a,d=.bool/\c=.bool a)\/(∃ s,d=.string/\c=.str s)):=by
 unfold scT at h
 split at h
 ·split at h
  ·rename_i k hk;exact ⟨_,hk,.inl ⟨_,_,_,rfl,rfl⟩⟩
  ·cases h
 ·split at h
  ·rename_i hk;exact ⟨_,hk,.inr (.inl ⟨_,rfl,rfl⟩)⟩
  ·cases h
 ·split at h
  ·rename_i hk;exact ⟨_,hk,.inr (.inr ⟨_,rfl,rfl⟩)⟩
  ·cases h
 ·cases h
theorem Vw1 {ρ:Env}{a b:CV}{u v:Value}(h:ceq a b=some true)(hu:VC ρ a u)(hv:VC ρ b v):u=v:=by
 cases a<;>cases b<;>simp [ceq] at h
 case bool.bool p q=>have e1:u=_:=hu;have e2:v=_:=hv;rw [e1,e2,h]
 case int.int k p k' q=>have e1:u=_:=hu;have e2:v=_:=hv;rw [e1,e2,h.1,h.2]
 case str.str p q=>have e1:u=_:=hu;have e2:v=_:=hv;rw [e1,e2,(MapKept.bytes_beq _ _).1 h]
theorem Xq0 {ρ:Env}{d:TypeDesc}{a b:CV}{u v:Value}{p:Bool}(hd:(∃ k k' x,d=.int k/\a=.int k' x)\/(∃ x,d=.bool/\a=.bool x)\/(∃ s,d=.string/\a=.str s))(h:ceq a b=some p)(hu:VC ρ a u)(hv:VC ρ b v) :
  Instr.sameNow d u v=some p:=by
 rcases hd with ⟨k,k',x,rfl,rfl⟩|⟨x,rfl,rfl⟩|⟨s,rfl,rfl⟩<;>cases b<;>simp only [ceq,reduceCtorEq] at h
 ·have e1:u=_:=hu;have e2:v=_:=hv
  subst e1;subst e2
  split at h
  ·rename_i hk;injection h with h;subst hk;subst h;simp [Instr.sameNow]
  ·cases h
 ·have e1:u=_:=hu;have e2:v=_:=hv
  subst e1;subst e2;injection h with h;subst h;rfl
 ·have e1:u=_:=hu;have e2:v=_:=hv
  subst e1;subst e2;injection h with h;subst h;rfl
def Xr3 (ρ:Env)(ka va:Bool)(k:List CV)(es:List (Nat × List CV × List CV))(o:List MapEntry)(r:Option Nat)(res:Option (Nat × Value)):Prop :=
 (r=none/\res=none)\/∃ j e x,r=some j/\es[j]?=some e/\o[j]?=some x/\Vk2 ρ ka va e x/\Jh5 k e.2.1=some true/\res=some (j,x.val)
theorem Ks9 {ρ:Env}{va:Bool}{d:TypeDesc}{c:CV}{v:Value}(hd:(∃ k k' x,d=.int k/\c=.int k' x)\/(∃ x,d=.bool/\c=.bool x)\/(∃ s,d=.string/\c=.str s))(hv:VC ρ c v) :
  ∀ (es:List (Nat × List CV × List CV)) (o:List MapEntry) (i:Nat) (r:Option Nat),All2 (Vk2 ρ false va) es o->Jy3 [c] es=some r ->
   ∃ res,Instr.findNow d v o i=some (res.map fun x=>(i+x.1,x.2))/\Xr3 ρ false va [c] es o r res
 | [],[],i,r,_,h=>by simp [Jy3] at h;subst h;exact ⟨none,rfl,.inl ⟨rfl,rfl⟩⟩
 | e::es,x::o,i,r,ho,h=>by
  simp only [Jy3] at h
  obtain ⟨eb,ek,ev,_⟩:=ho.1
  have hkc:∃ c',e.2.1=[c']/\VC ρ c' x.key:=by
   cases hq:e.2.1 with
   | nil=>rw [hq] at h;simp [Jh5] at h
   | cons c' l =>
    cases l with
    | nil=>rw [hq] at ek;exact ⟨c',rfl,ek⟩
    | cons c'' l=>rw [hq] at h;simp [Jh5] at h
  obtain ⟨c',hq,hc'⟩:=hkc
  have hkl:∀ p,ceq c c'=some p->Jh5 [c] e.2.1=some p:=fun p hp=>by rw [hq];simp [Jh5,hp]
  cases hp:ceq c c' with
  | none=>rw [hq] at h;simp [Jh5,hp] at h
  | some p =>
   have hs:=Xq0 hd hp hv hc'
   rw [hkl p hp] at h
   cases p with
   | true =>
    simp only [Option.some.injEq] at h
    subst h
    exact ⟨some (0,x.val),by simp [Instr.findNow,hs],.inr ⟨0,e,x,rfl,rfl,rfl,ho.1,hkl _ hp,rfl⟩⟩
   | false =>
    simp only [Option.map_eq_some_iff] at h
    obtain ⟨r',hr',rfl⟩:=h
    obtain ⟨res,h1,h2⟩:=Ks9 hd hv es o (i+1) r' ho.2 hr'
    refine ⟨res.map fun x=>(x.1+1,x.2),?_,?_⟩
    ·simp only [Instr.findNow,hs,h1,Option.map_map]
     congr 1
     cases res with
     | none=>rfl
     | some y=>simp;omega
    ·rcases h2 with ⟨rfl,rfl⟩|⟨j,e1,x1,rfl,g1,g2,g3,g4,rfl⟩
     ·exact .inl ⟨rfl,rfl⟩
     ·exact .inr ⟨j+1,e1,x1,rfl,by simpa using g1,by simpa using g2,g3,g4,rfl⟩
 | [],_::_,_,_,h,_=>h.elim
 | _::_,[],_,_,h,_=>h.elim
theorem Xo7 {d:Nat}{t:TypeId}{a b:CV}{p:Bool}(ha:scI P t a=true)(h:ceq a b=some p):eqV P (d+1) t (.one a) (.one b)=some p:=by
 cases a<;>simp only [scI,reduceCtorEq,Bool.false_eq_true] at ha
 case bool x =>
  cases b<;>simp only [ceq,reduceCtorEq] at h
  split at ha
  ·rename_i hu;simp only [eqV,hu];exact h
  ·cases ha
 case int k x =>
  cases b<;>simp only [ceq,reduceCtorEq] at h
  split at ha
  ·rename_i hu;simp only [eqV,hu];exact h
  ·cases ha
theorem Ko7 {d:Nat}{e:TypeId}(h1:Jd2 P e=some false){xs ys:List CV}:∀ (m i:Nat) (p:Bool),i+m=xs.length->Jh5 (xs.drop i) (ys.drop i)=some p->xs.all (scI P e)=true ->
  Jp1 P (eqV P (d+1)) xs ys ((List.range' i m).map fun j=>(e,j*1))=some p
 | 0,i,p,hi,h,_=>by
  rw [List.drop_of_length_le (by omega)] at h
  cases hy:ys.drop i with
  | nil=>rw [hy] at h;simp [Jh5] at h;subst h;simp [Jp1]
  | cons y l=>rw [hy] at h;simp [Jh5] at h
 | m+1,i,p,hi,h,hall=>by
  have hlt:i<xs.length:=by omega
  rw [List.drop_eq_getElem_cons hlt] at h
  cases hy:ys.drop i with
  | nil=>rw [hy] at h;simp [Jh5] at h
  | cons y l =>
   have hly:i<ys.length:=by
    rcases Nat.lt_or_ge i ys.length with h|h
    ·exact h
    ·rw [List.drop_of_length_le h] at hy;cases hy
   rw [List.drop_eq_getElem_cons hly] at hy
   injection hy with hy1 hy2
   subst hy1;subst hy2
   rw [List.drop_eq_getElem_cons hly] at h
   simp only [Jh5] at h
   split at h
   ·rename_i p1 q1 hp1 hq1
    injection h with h
    subst h
    have ih:=Ko7 (d:=d) h1 m (i+1) q1 (by omega) hq1 hall
    have hsx:scI P e xs[i]=true:=List.all_eq_true.1 hall _ (List.getElem_mem hlt)
    simp only [List.range'_succ,List.map_cons,Jp1,Kh6,h1,Nat.mul_one,List.getElem?_eq_getElem hlt,List.getElem?_eq_getElem hly,Option.map_some,Xo7 hsx hp1]
    simp only [Nat.mul_one] at ih
    rw [ih]
   ·cases h
theorem Xo8 {d:Nat}{t e:TypeId}{n:Nat}{xs ys:List CV}{p:Bool}(hu:P.underlying t=some (.array n e))(h1:Jf5 P e=some 1)(h2:Jd2 P e=some false)(h3:xs.length=n)(h4:xs.all (scI P e)=true)
  (h:Jh5 xs ys=some p):eqV P (d+2) t (.agg xs) (.agg ys)=some p:=by
 simp only [eqV,hu,h1]
 exact Ko7 (d:=d) h2 n 0 p (by omega) (by simpa using h) h4
theorem Ku3 {ρ:Env}{t:TypeId}{xs ys:List CV}{u v:Value}{p:Bool}(hc:Jj2 P t true xs=true)(h:Jh5 xs ys=some p)(hu:TV ρ (true,xs) u)(hv:TV ρ (true,ys) v)(w:World) :
  (Op.equal t u v).run P w=.ok p w:=by
 simp only [Jj2] at hc
 split at hc
 ·rename_i n e hu'
  simp only [Bool.and_eq_true,decide_eq_true_eq,beq_iff_eq] at hc
  obtain ⟨⟨⟨h1,h2⟩,h3⟩,h4⟩:=hc
  have hev:eqV P 10000 t (.agg xs) (.agg ys)=some p:=Xo8 (d:=9998) hu' h1 h2 h3 h4 h
  exact Ku4 P 10000 t (.agg xs) (.agg ys) u v p w hev hu hv
 ·cases hc
theorem Ks5:∀ {xs ys:List CV} {p:Bool},Jh5 xs ys=some p->xs.length=ys.length
 | [],[],_,_=>rfl
 | a::l,b::r,p,h=>by
  simp only [Jh5] at h
  split at h
  ·rename_i p1 q1 hp hq;simp [Ks5 hq]
  ·cases h
 | [],_::_,_,h=>by simp [Jh5] at h
 | _::_,[],_,h=>by simp [Jh5] at h
theorem Kd9 {ρ:Env}{va:Bool}{t:TypeId}{xs:List CV}{v:Value}(hc:Jj2 P t true xs=true)(hv:TV ρ (true,xs) v)(w:World) :
  ∀ (es:List (Nat × List CV × List CV)) (o:List MapEntry) (i:Nat) (r:Option Nat),All2 (Vk2 ρ true va) es o->Jy3 xs es=some r ->
   ∃ res,(Instr.findAsking t v o i).run P w=.ok (res.map fun x=>(i+x.1,x.2)) w/\Xr3 ρ true va xs es o r res
 | [],[],i,r,_,h=>by simp [Jy3] at h;subst h;exact ⟨none,by simp [Instr.findAsking],.inl ⟨rfl,rfl⟩⟩
 | e::es,x::o,i,r,ho,h=>by
  simp only [Jy3] at h
  obtain ⟨eb,ek,ev,_⟩:=ho.1
  cases hp:Jh5 xs e.2.1 with
  | none=>rw [hp] at h;cases h
  | some p =>
   have hs:=Ku3 hc hp hv ek w
   rw [hp] at h
   cases p with
   | true =>
    simp only [Option.some.injEq] at h
    subst h
    exact ⟨some (0,x.val),by simp [Instr.findAsking,hs],.inr ⟨0,e,x,rfl,rfl,rfl,ho.1,hp,rfl⟩⟩
   | false =>
    simp only [Option.map_eq_some_iff] at h
    obtain ⟨r',hr',rfl⟩:=h
    obtain ⟨res,h1,h2⟩:=Kd9 hc hv w es o (i+1) r' ho.2 hr'
    refine ⟨res.map fun x=>(x.1+1,x.2),?_,?_⟩
    ·simp only [Instr.findAsking,Sem.run_bind,hs,Result.andThen_ok,Bool.false_eq_true,if_false,h1,Option.map_map]
     congr 1
     cases res with
     | none=>rfl
     | some y=>simp;omega
    ·rcases h2 with ⟨rfl,rfl⟩|⟨j,e1,x1,rfl,g1,g2,g3,g4,rfl⟩
     ·exact .inl ⟨rfl,rfl⟩
     ·exact .inr ⟨j+1,e1,x1,rfl,by simpa using g1,by simpa using g2,g3,g4,rfl⟩
 | [],_::_,_,_,h,_=>h.elim
 | _::_,[],_,_,h,_=>h.elim
theorem Jo1 {ρ:Env}{ka va:Bool}{t:TypeId}{k:List CV}{v:Value}{es:List (Nat × List CV × List CV)}{o:List MapEntry}{r:Option Nat}(hc:Jj2 P t ka k=true)(hv:TV ρ (ka,k) v)
  (ho:All2 (Vk2 ρ ka va) es o) (h:Jy3 k es=some r) (w:World):∃ res,(Instr.findKey t v o).run P w=.ok res w/\Xr3 ρ ka va k es o r res:=by
 cases ka with
 | false =>
  match k,hc,hv with
  | [c],hc,hv =>
   obtain ⟨d,hd,hcs⟩:=Qj2 (P:=P) (t:=t) (by simpa only [Jj2] using hc)
   obtain ⟨res,h1,h2⟩:=Ks9 hcs hv es o 0 r ho h
   refine ⟨res,?_,h2⟩
   simp only [Instr.findKey,Sem.run_bind,run_underlying hd,Result.andThen_ok,h1,Sem.run_pure]
   cases res with
   | none=>rfl
   | some y=>simp
  | [],hc,_=>simp [Jj2] at hc
  | _::_::_,hc,_=>simp [Jj2] at hc
 | true =>
  have hd:∃ n e,P.underlying t=some (.array n e):=by
   simp only [Jj2] at hc
   split at hc
   ·rename_i n e h;exact ⟨n,e,h⟩
   ·cases hc
  obtain ⟨n,e,hd⟩:=hd
  obtain ⟨res,h1,h2⟩:=Kd9 hc hv w es o 0 r ho h
  refine ⟨res,?_,h2⟩
  have h1':(Instr.findAsking t v o).run P w=.ok res w:=by
   rw [h1];cases res<;>simp
  simp only [Instr.findKey,Sem.run_bind,run_underlying hd,Result.andThen_ok]
  cases o with
  | nil =>
   simp only [Instr.findNow,Sem.run_pure]
   rcases h2 with ⟨_,rfl⟩|⟨j,e1,x1,_,_,g2,_⟩
   ·rfl
   ·simp at g2
  | cons x o=>exact h1'
theorem Jx5 {t:TypeId}(ht:(∃ k,P.underlying t=some (.int k))\/P.underlying t=some .bool\/P.underlying t=some .string)(em:Bool)(d:Nat)(v:Value)(w:World):(Instr.checkKey em (d+1) t v).run P w=.ok () w:=by
 rcases ht with ⟨k,h⟩|h|h<;>simp only [Instr.checkKey,Sem.run_bind,run_underlying h,Result.andThen_ok,Sem.run_pure]
theorem Kh5 {ρ:Env}{d n:Nat}{t e:TypeId}{k:List CV}{vs:Array Value}(hu:P.underlying t=some (.array n e))(h1:Jf5 P e=some 1)(h2:Jd2 P e=some false)(h3:k.length=n)(h4:k.all (scI P e)=true)
  (hall:All2 (VC ρ) k vs.toList) (em:Bool) (w:World):(Instr.checkKey em (d+2) t (.agg vs)).run P w=.ok () w:=by
 rw [Instr.checkKey]
 simp only [Sem.run_bind,run_underlying hu,Result.andThen_ok]
 rw [Std.Legacy.Range.forIn_eq_forIn_range']
 simp only [Std.Legacy.Range.size,Nat.sub_zero,Nat.add_sub_cancel,Nat.div_one]
 have hsc:∀ c,c ∈ k->(∃ q,P.underlying e=some (.int q))\/P.underlying e=some .bool\/P.underlying e=some .string:=fun c hcm=>by
  have:=List.all_eq_true.1 h4 c hcm
  cases c<;>simp only [scI,reduceCtorEq,Bool.false_eq_true] at this
  ·split at this
   ·rename_i h;exact .inr (.inl h)
   ·cases this
  ·split at this
   ·rename_i q h;exact .inl ⟨q,h⟩
   ·cases this
 have key:∀ (m i:Nat),i+m=k.length->((forIn (List.range' i m) PUnit.unit fun j _=>(do
   Instr.checkKey em (d+1) e (<-part e vs (j*(<-sizeOf e)))
   pure (ForInStep.yield PUnit.unit):Sem (ForInStep PUnit))):Sem PUnit).run P w=.ok PUnit.unit w:=by
  intro m
  induction m with
  | zero=>intro i _;simp
  | succ m ih =>
   intro i hi
   have hlt:i<k.length:=by omega
   obtain ⟨x,hx,_⟩:=hall.get (List.getElem?_eq_getElem hlt)
   have hx':vs[i]?=some x:=by simpa using hx
   have hp:(part e vs (i*1)).run P w=.ok x w:=by simp [part,Jx4 P h2,hx']
   simp only [List.range'_succ,List.forIn_cons,Sem.run_bind,Je7 P h1,Result.andThen_ok,hp,Jx5 (hsc _ (List.getElem_mem hlt)) em d x w,Sem.run_pure]
   exact ih (i+1) (by omega)
 have:=key n 0 (by omega)
 rw [this]
 rfl
theorem Jg2 {ρ:Env}{ka:Bool}{t:TypeId}{k:List CV}{v:Value}(hc:Jj2 P t ka k=true)(hv:TV ρ (ka,k) v)(em:Bool)(w:World):(Instr.checkKey em 10000 t v).run P w=.ok () w:=by
 cases ka with
 | false =>
  match k,hc with
  | [c],hc =>
   obtain ⟨d,hd,hcs⟩:=Qj2 (P:=P) (t:=t) (by simpa only [Jj2] using hc)
   refine Jx5 ?_ em 9999 v w
   rcases hcs with ⟨k,_,_,rfl,_⟩|⟨_,rfl,_⟩|⟨_,rfl,_⟩
   ·exact .inl ⟨k,hd⟩
   ·exact .inr (.inl hd)
   ·exact .inr (.inr hd)
  | [],hc=>simp [Jj2] at hc
  | _::_::_,hc=>simp [Jj2] at hc
 | true =>
  simp only [Jj2] at hc
  split at hc
  ·rename_i n e hu
   simp only [Bool.and_eq_true,decide_eq_true_eq,beq_iff_eq] at hc
   obtain ⟨⟨⟨h1,h2⟩,h3⟩,h4⟩:=hc
   obtain ⟨vs,rfl,hall⟩:=hv
   exact Kh5 (d:=9998) hu h1 h2 h3 h4 hall em w
  ·cases hc
theorem Kc3:∀ (n:Nat) (v:Value),(∃ k a,v=.int k a)\/(∃ a,v=.bool a)\/(∃ s,v=.string s)->Instr.sameBits n v v=true
 | n,_,.inl ⟨k,a,rfl⟩=>by cases n<;>simp [Instr.sameBits]
 | n,_,.inr (.inl ⟨a,rfl⟩)=>by cases n<;>simp [Instr.sameBits]
 | n,_,.inr (.inr ⟨s,rfl⟩)=>by cases n<;>simp only [Instr.sameBits]<;>exact (MapKept.bytes_beq s s).2 rfl
theorem Vw0 {ρ:Env}{a b:CV}{v:Value}{p:Bool}(h:ceq a b=some p)(hv:VC ρ a v):(∃ k x,v=.int k x)\/(∃ x,v=.bool x)\/(∃ s,v=.string s):=by
 cases a<;>cases b<;>simp only [ceq,reduceCtorEq] at h
 ·exact .inr (.inl ⟨_,hv⟩)
 ·exact .inl ⟨_,_,hv⟩
 ·exact .inr (.inr ⟨_,hv⟩)
theorem Ka7 {ρ:Env}:∀ {xs ys:List CV} {us vs:List Value},Jh5 xs ys=some true->All2 (VC ρ) xs us->All2 (VC ρ) ys vs->us=vs/\∀ v,v ∈ us->(∃ k x,v=.int k x)\/(∃ x,v=.bool x)\/(∃ s,v=.string s)
 | [],[],[],[],_,_,_=>⟨rfl,fun v h=>by cases h⟩
 | a::l,b::r,u::us,v::vs,h,hx,hy=>by
  simp only [Jh5] at h
  split at h
  ·rename_i p q hp hq
   simp only [Option.some.injEq,Bool.and_eq_true] at h
   obtain ⟨rfl,rfl⟩:=h
   obtain ⟨e,g⟩:=Ka7 hq hx.2 hy.2
   refine ⟨by rw [Vw1 hp hx.1 hy.1,e],fun z hz=>?_⟩
   rcases List.mem_cons.1 hz with rfl|hz
   ·exact Vw0 hp hx.1
   ·exact g z hz
  ·cases h
 | [],_::_,_,_,h,_,_=>by simp [Jh5] at h
 | _::_,[],_,_,h,_,_=>by simp [Jh5] at h
 | [],[],_::_,_,_,h,_=>h.elim
 | [],[],[],_::_,_,_,h=>h.elim
 | _::_,_::_,[],_,_,h,_=>h.elim
 | _::_,_::_,_::_,[],_,_,h=>h.elim
theorem Kg2 {ρ:Env}{ka:Bool}{k k':List CV}{u v:Value}(h:Jh5 k k'=some true)(hu:TV ρ (ka,k) u)(hv:TV ρ (ka,k') v)(hl:ka=false->k.length=1)(w:World):(Instr.keyThatStays v u).run P w=.ok u w:=by
 have hs:Instr.sameBits 10000 v u=true:=by
  cases ka with
  | true =>
   obtain ⟨us,rfl,hx⟩:=hu
   obtain ⟨vs,rfl,hy⟩:=hv
   obtain ⟨e,g⟩:=Ka7 h hx hy
   have e':us=vs:=Array.toList_inj.1 e
   subst e'
   show Instr.sameBits (9999+1) _ _=true
   simp only [Instr.sameBits,beq_self_eq_true,Bool.true_and,List.all_eq_true]
   intro p hp
   obtain ⟨x,y⟩:=p
   have hxy:x=y/\x ∈ us.toList:=by
    obtain ⟨l⟩:=us
    simp only at hp
    clear g e hx hy h
    induction l with
    | nil=>cases hp
    | cons a l ih =>
     simp only [List.zip_cons_cons,List.mem_cons,Prod.mk.injEq] at hp
     rcases hp with ⟨rfl,rfl⟩|hp
     ·exact ⟨rfl,by simp⟩
     ·obtain ⟨e1,e2⟩:=ih hp;exact ⟨e1,List.mem_cons_of_mem _ e2⟩
   obtain ⟨rfl,hm⟩:=hxy
   exact Kc3 _ _ (g _ hm)
  | false =>
   match k,hl rfl with
   | [c],_ =>
    match k',Ks5 h with
    | [c'],_ =>
     obtain ⟨e,g⟩:=Ka7 (ρ:=ρ) (us:=[u]) (vs:=[v]) h ⟨hu,trivial⟩ ⟨hv,trivial⟩
     injection e with e _
     subst e
     exact Kc3 _ _ (g _ (by simp))
 simp only [Instr.keyThatStays,hs,if_true,Sem.run_pure]
def Kd2 (P:Program)(t:TypeId)(mem:Ja1):Option (AV × Ja1) :=
 match P.underlying t with
 | some (.map k e)=>match Jd2 P k,Jd2 P e with
  | some ka,some va=>some (.one (.mp mem.length 0),mem++[⟨.map ka va 0 [],t,0,0,[]⟩])
  | _,_=>none
 | _=>none
theorem Kz6 {ρ:Env}{mem mem':Ja1}{w:World}(hm:RepM ρ mem w){t:TypeId}{z:AV}(h:Kd2 P t mem=some (z,mem')) :
  ∃ v w' ρ',(Instr.makeMap t none).run P w=.ok v w'/\VR ρ' z v/\RepM ρ' mem' w'/\Step mem ρ w mem' ρ' w':=by
 unfold Kd2 at h
 split at h
 ·split at h
  ·rename_i ka va _ _
   injection h with h;injection h with h1 h2;subst h1;subst h2
   have hb:BlkR (ρ.set mem.length 0 (some ⟨w.heap.size,0,none⟩,0)) (w.alloc (.map #[] 0)) mem.length ⟨.map ka va 0 [],t,0,0,[]⟩ :=
    ⟨w.heap.size,#[],0,Env.set_same _ _ _ _,by show (w.heap.push _)[w.heap.size]?=_;simp,trivial,rfl⟩
   obtain ⟨g1,g2⟩:=hm.new (.map #[] 0) ⟨.map ka va 0 [],t,0,0,[]⟩ (some ⟨w.heap.size,0,none⟩) 0 (fun x hx=>by injection hx with hx;subst hx;rfl) (by simp) hb
   exact ⟨_,_,_,rfl,⟨_,_,Env.set_same _ _ _ _,rfl⟩,g1,g2⟩
  ·cases h
 ·cases h
def Kd1 (mem:Ja1)(r ver:Nat):Option (Bool × Bool × Nat × List (Nat × List CV × List CV)) :=
 match mem[r]? with
 | some ⟨.map ka va clock es,_,v,_,_⟩=>if ver=v then some (ka,va,clock,es) else none
 | _=>none
theorem Jh8 {ρ:Env}{mem:Ja1}{w:World}(hm:RepM ρ mem w){r ver:Nat}{ka va:Bool}{clock:Nat}{es:List (Nat × List CV × List CV)}(h:Kd1 mem r ver=some (ka,va,clock,es)){v:Value}(hv:VC ρ (.mp r ver) v) :
  ∃ b n k o,mem[r]?=some b/\b.ver=ver/\b.kind=.map ka va clock es/\b.cells=[]/\ρ r ver=some (some ⟨n,0,none⟩,k)/\v=.map (some n)/\w.heap[n]?=some (.map o clock)/\All2 (Vk2 ρ ka va) es o.toList:=by
 unfold Kd1 at h
 split at h
 ·rename_i ka' va' clock' es' ty v' esz cells hb
  split at h
  ·rename_i hve
   subst hve
   injection h with h;injection h with h1 h;injection h with h2 h;injection h with h3 h4
   subst h1;subst h2;subst h3;subst h4
   obtain ⟨n,o,k,q1,q2,q3,q4⟩:=hm.blk r _ hb
   obtain ⟨n',k',p1,p2⟩:=hv
   have e:n'=n:=by
    rw [q1] at p1;injection p1 with p1;injection p1 with p1 _;injection p1 with p1;injection p1 with p1 _;exact p1.symm
   subst e
   exact ⟨_,_,_,o,hb,rfl,rfl,q4,q1,p2,q2,q3⟩
  ·cases h
 ·cases h
def Kn3 (P:Program)(t:TypeId)(x k:AV)(ok:Bool)(mem:Ja1):Option AV :=
 match P.underlying t,x,k.ent with
 | some (.map kt et),.one (.mp r ver),some (ka',kc)=>match Kd1 mem r ver with
  | some (ka,va,_,es)=>if ka=ka'/\Jj2 P kt ka kc=true then
    match Jy3 kc es with
    | some (some j)=>match es[j]? with
     | some e=>some (if ok then .tup [(va,e.2.2),(false,[.bool true])] else mkA va e.2.2)
     | none=>none
    | some none=>match Jc0 P et with
     | some z=>match (ofV z).ent with
      | some t=>some (if ok then .tup [t,(false,[.bool false])] else mkA t.1 t.2)
      | none=>none
     | none=>none
    | none=>none
   else none
  | none=>none
 | _,_,_=>none
theorem Qe9 {ρ:Env}{mem:Ja1}{w:World}(hm:RepM ρ mem w){t:TypeId}{x k z:AV}{ok:Bool}{u y:Value}(h:Kn3 P t x k ok mem=some z)(hx:VR ρ x u)(hk:VR ρ k y) :
  ∃ v,(Instr.lookup t u y ok).run P w=.ok v w/\VR ρ z v:=by
 unfold Kn3 at h
 split at h
 ·rename_i kt et r ver ka' kc hu hent
  split at h
  ·rename_i ka va clock es hmap
   split at h
   ·rename_i hcond
    obtain ⟨rfl,hchk⟩:=hcond
    obtain ⟨b,n,kk,o,hb,hver,hkind,hcells,hρ,rfl,hheap,hall⟩:=Jh8 hm hmap hx
    have hkt:=hk.ent hent
    have hg:(getObj n).run P w=.ok (.map o clock) w:=by simp [getObj,Sem.run,hheap]
    have hnone:∀ z0,(Instr.findKey kt y o.toList).run P w=.ok none w->Jc0 P et=some z0->(Instr.lookup t (.map (some n)) y ok).run P w=.ok (if ok then .tuple #[z0,.bool false] else z0) w:=by
     intro z0 hres hz0
     simp only [Instr.lookup,Sem.run_bind,run_underlying hu,Result.andThen_ok,hg,Sem.run_pure,Jg2 hchk hkt,hres,Jh6 P hz0]
    have hsome:∀ j v,(Instr.findKey kt y o.toList).run P w=.ok (some (j,v)) w->(Instr.lookup t (.map (some n)) y ok).run P w=.ok (if ok then .tuple #[v,.bool true] else v) w:=by
     intro j v hres
     simp only [Instr.lookup,Sem.run_bind,run_underlying hu,Result.andThen_ok,hg,Sem.run_pure,Jg2 hchk hkt,hres]
    cases hf:Jy3 kc es with
    | none=>rw [hf] at h;cases h
    | some rr =>
     obtain ⟨res,hrun,hfound⟩:=Jo1 hchk hkt hall hf w
     rw [hf] at h
     rcases hfound with ⟨rfl,rfl⟩|⟨j,e,x1,rfl,g1,g2,g3,g4,rfl⟩
     ·simp only at h
      split at h
      ·rename_i z0 hz0
       split at h
       ·rename_i t0 ht0
        injection h with h;subst h
        have ht:=(Vi7 ρ z0).ent ht0
        rw [hnone z0 hrun hz0]
        cases ok with
        | true=>exact ⟨_,rfl,_,rfl,ht,rfl,trivial⟩
        | false=>exact ⟨_,rfl,ht.mkA⟩
       ·cases h
      ·cases h
     ·simp only [g1] at h
      injection h with h;subst h
      rw [hsome j x1.val hrun]
      cases ok with
      | true=>exact ⟨_,rfl,_,rfl,g3.2.2.1,rfl,trivial⟩
      | false=>exact ⟨_,rfl,g3.2.2.1.mkA⟩
   ·cases h
  ·cases h
 ·cases h
def setMap (mem:Ja1)(r:Nat)(clock:Nat)(es:List (Nat × List CV × List CV)):Ja1 :=
 match mem[r]? with
 | some ⟨.map ka va _ _,ty,v,esz,cells⟩=>mem.set r ⟨.map ka va clock es,ty,v,esz,cells⟩
 | _=>mem
theorem Qy5 {mem:Ja1}{r:Nat}{b:Blk}(hb:mem[r]?=some b){ka va:Bool}{c0:Nat}{es0:List (Nat × List CV × List CV)}(hk:b.kind=.map ka va c0 es0)(clock:Nat)(es:List (Nat × List CV × List CV)) :
  setMap mem r clock es=mem.set r { b with kind:=.map ka va clock es }:=by
 obtain ⟨kind,ty,v,esz,cells⟩:=b
 simp only at hk
 subst hk
 simp only [setMap,hb]
theorem Kq5 {w:World}{n:Nat}{o:Array MapEntry}{c:Nat}(h:w.heap[n]?=some (.map o c))(o':Obj):(setObj n o').run P w=.ok () (ChangeMaps.setBlock w n o'):=by
 simp [setObj,Sem.run,h,ChangeMaps.setBlock]
theorem RepM.setMap {ρ:Env}{mem:Ja1}{w:World}(hm:RepM ρ mem w){r:Nat}{b:Blk}(hb:mem[r]?=some b){ka va:Bool}{c0:Nat}{es0:List (Nat × List CV × List CV)}(hk:b.kind=.map ka va c0 es0)(hcells:b.cells=[])
  {n k:Nat} (hρ:ρ r b.ver=some (some ⟨n,0,none⟩,k)) {o0:Array MapEntry} {cc:Nat} (hheap:w.heap[n]?=some (.map o0 cc)) {clock:Nat} {es:List (Nat × List CV × List CV)} {o:Array MapEntry} (hall:All2 (Vk2 ρ ka va) es o.toList) :
  (setObj n (.map o clock)).run P w=.ok () (ChangeMaps.setBlock w n (.map o clock))/\RepM ρ (Eng.setMap mem r clock es) (ChangeMaps.setBlock w n (.map o clock))/\Step mem ρ w (Eng.setMap mem r clock es) ρ (ChangeMaps.setBlock w n (.map o clock)):=by
 have hn:n<w.heap.size:=(Array.getElem?_eq_some_iff.1 hheap).1
 rw [Qy5 hb hk]
 refine ⟨Kq5 hheap _,hm.turn hb (by rw [hk];simp) hρ _ (by rw [hk];rfl) rfl ?_ ?_ rfl rfl rfl ?_⟩
 ·intro m hmn
  show (w.heap.setIfInBounds n _)[m]?=_
  rw [Array.getElem?_setIfInBounds_ne (fun e=>hmn e.symm)]
 ·show (w.heap.setIfInBounds n _).size=_;simp
 ·exact ⟨n,o,k,hρ,by show (w.heap.setIfInBounds n _)[n]?=_;simp [hn],hall,hcells⟩
def Qb3 (P:Program)(t:TypeId)(x k y:AV)(mem:Ja1):Option Ja1 :=
 match P.underlying t,x,k.ent,y.ent with
 | some (.map kt _),.one (.mp r ver),some (ka',kc),some (va',vc)=>match Kd1 mem r ver with
  | some (ka,va,clock,es)=>if ka=ka'/\va=va'/\Jj2 P kt ka kc=true then
    match Jy3 kc es with
    | some (some j)=>match es[j]? with
     | some e=>some (setMap mem r clock (es.set j (e.1,kc,vc)))
     | none=>none
    | some none=>some (setMap mem r (clock+1) (es++[(clock,kc,vc)]))
    | none=>none
   else none
  | none=>none
 | _,_,_,_=>none
theorem Qr1 {ρ:Env}{mem mem':Ja1}{w:World}(hm:RepM ρ mem w){t:TypeId}{x k z:AV}{u y v:Value}(h:Qb3 P t x k z mem=some mem')(hx:VR ρ x u)(hk:VR ρ k y)(hz:VR ρ z v) :
  ∃ w',(Instr.mapUpdate t u y v).run P w=.ok () w'/\RepM ρ mem' w'/\Step mem ρ w mem' ρ w':=by
 unfold Qb3 at h
 split at h
 ·rename_i kt et r ver ka' kc va' vc hu hent hent2
  split at h
  ·rename_i ka va clock es hmap
   split at h
   ·rename_i hcond
    obtain ⟨rfl,rfl,hchk⟩:=hcond
    obtain ⟨b,n,kk,o,hb,hver,hkind,hcells,hρ,rfl,hheap,hall⟩:=Jh8 hm hmap hx
    subst hver
    have hkt:=hk.ent hent
    have hvt:=hz.ent hent2
    have hg:(getObj n).run P w=.ok (.map o clock) w:=by simp [getObj,Sem.run,hheap]
    cases hf:Jy3 kc es with
    | none=>rw [hf] at h;cases h
    | some rr =>
     obtain ⟨res,hrun,hfound⟩:=Jo1 hchk hkt hall hf w
     rw [hf] at h
     rcases hfound with ⟨rfl,rfl⟩|⟨j,e,x1,rfl,g1,g2,g3,g4,rfl⟩
     ·simp only [Option.some.injEq] at h
      subst h
      obtain ⟨q1,q2,q3⟩:=hm.setMap (P:=P) hb hkind hcells hρ hheap (clock:=clock+1) (es:=es++[(clock,kc,vc)]) (o:=o.push { key:=y,val:=v,born:=clock }) (by
       rw [Array.toList_push];exact hall.append ⟨⟨rfl,hkt,hvt,AV.ent_ok hent,AV.ent_ok hent2⟩,trivial⟩)
      refine ⟨_,?_,q2,q3⟩
      simp only [Instr.mapUpdate,Sem.run_bind,run_underlying hu,Result.andThen_ok,hg,Jg2 hchk hkt,hrun,q1]
     ·simp only [g1,Option.some.injEq] at h
      subst h
      have ho:o[j]?=some x1:=by simpa using g2
      obtain ⟨hj,hje⟩:=Array.getElem?_eq_some_iff.1 ho
      have hl1:ka=false->kc.length=1:=fun hka=>by
       subst hka
       match kc,hchk with
       | [c],_=>rfl
       | [],hchk=>simp [Jj2] at hchk
       | _::_::_,hchk=>simp [Jj2] at hchk
      have hst:=Kg2 (P:=P) g4 hkt g3.2.1 hl1 w
      have hmod:(o.modify j fun e=>{ e with key:=y,val:=v }).toList=o.toList.set j { x1 with key:=y,val:=v }:=by
       apply List.ext_getElem?
       intro i
       rw [Array.getElem?_toList,Array.getElem?_modify]
       by_cases hi:j=i
       ·subst hi
        rw [if_pos rfl,ho,List.getElem?_set_self (by simpa using hj)];rfl
       ·rw [if_neg hi,List.getElem?_set_ne hi,Array.getElem?_toList]
      obtain ⟨q1,q2,q3⟩:=hm.setMap (P:=P) hb hkind hcells hρ hheap (clock:=clock) (es:=es.set j (e.1,kc,vc)) (o:=o.modify j fun e=>{ e with key:=y,val:=v }) (by
       rw [hmod];exact hall.set ⟨g3.1,hkt,hvt,AV.ent_ok hent,AV.ent_ok hent2⟩)
      refine ⟨_,?_,q2,q3⟩
      simp only [Instr.mapUpdate,Sem.run_bind,run_underlying hu,Result.andThen_ok,hg,Jg2 hchk hkt,hrun,ho,Option.map_some,Option.getD_some,hst,q1]
   ·cases h
  ·cases h
 ·cases h
def Jx9 (P:Program)(t:TypeId)(x k:AV)(mem:Ja1):Option (AV × Ja1) :=
 match P.underlying t,x,k.ent with
 | some (.map kt et),.one (.mp r ver),some (ka',kc)=>match Kd1 mem r ver with
  | some (ka,va,clock,es)=>if ka=ka'/\Jj2 P kt ka kc=true then
    match Jy3 kc es with
    | some (some j)=>match es[j]? with
     | some e=>some (.tup [(va,e.2.2),(false,[.int .i64 e.1])],setMap mem r clock (es.set j (e.1,kc,e.2.2)))
     | none=>none
    | some none=>match Jc0 P et with
     | some z=>match (ofV z).ent with
      | some (va',zc)=>if va=va' then some (.tup [(va,zc),(false,[.int .i64 clock])],setMap mem r (clock+1) (es++[(clock,kc,zc)])) else none
      | none=>none
     | none=>none
    | none=>none
   else none
  | none=>none
 | _,_,_=>none
theorem Ku2 {ρ:Env}{mem mem':Ja1}{w:World}(hm:RepM ρ mem w){t:TypeId}{x k z:AV}{u y:Value}(h:Jx9 P t x k mem=some (z,mem'))(hx:VR ρ x u)(hk:VR ρ k y) :
  ∃ v w' ρ',(Instr.mapEntry t u y).run P w=.ok v w'/\VR ρ' z v/\RepM ρ' mem' w'/\Step mem ρ w mem' ρ' w':=by
 unfold Jx9 at h
 split at h
 ·rename_i kt et r ver ka' kc hu hent
  split at h
  ·rename_i ka va clock es hmap
   split at h
   ·rename_i hcond
    obtain ⟨rfl,hchk⟩:=hcond
    obtain ⟨b,n,kk,o,hb,hver,hkind,hcells,hρ,rfl,hheap,hall⟩:=Jh8 hm hmap hx
    subst hver
    have hkt:=hk.ent hent
    have hg:(getObj n).run P w=.ok (.map o clock) w:=by simp [getObj,Sem.run,hheap]
    cases hf:Jy3 kc es with
    | none=>rw [hf] at h;cases h
    | some rr =>
     obtain ⟨res,hrun,hfound⟩:=Jo1 hchk hkt hall hf w
     rw [hf] at h
     rcases hfound with ⟨rfl,rfl⟩|⟨j,e,x1,rfl,g1,g2,g3,g4,rfl⟩
     ·simp only at h
      cases hz0:Jc0 P et with
      | none=>rw [hz0] at h;cases h
      | some z0 =>
       rw [hz0] at h
       simp only at h
       cases ht0:(ofV z0).ent with
       | none=>rw [ht0] at h;cases h
       | some t0 =>
        obtain ⟨va',zc⟩:=t0
        rw [ht0] at h
        simp only at h
        split at h
        ·rename_i hva
         subst hva
         injection h with h;injection h with h1 h2;subst h1;subst h2
         have hvt:=(Vi7 ρ z0).ent ht0
         obtain ⟨q1,q2,q3⟩:=hm.setMap (P:=P) hb hkind hcells hρ hheap (clock:=clock+1) (es:=es++[(clock,kc,zc)]) (o:=o.push { key:=y,val:=z0,born:=clock }) (by
          rw [Array.toList_push];exact hall.append ⟨⟨rfl,hkt,hvt,AV.ent_ok hent,AV.ent_ok ht0⟩,trivial⟩)
         refine ⟨.tuple #[z0,goInt clock],_,ρ,?_,⟨_,rfl,hvt,rfl,trivial⟩,q2,q3⟩
         simp only [Instr.mapEntry,Sem.run_bind,run_underlying hu,Result.andThen_ok,hg,Jg2 hchk hkt,hrun,Jh6 P hz0,q1,Sem.run_pure]
        ·cases h
     ·simp only [g1] at h
      injection h with h;injection h with h1 h2;subst h1;subst h2
      have ho:o[j]?=some x1:=by simpa using g2
      obtain ⟨hj,hje⟩:=Array.getElem?_eq_some_iff.1 ho
      have hl1:ka=false->kc.length=1:=fun hka=>by
       subst hka
       match kc,hchk with
       | [c],_=>rfl
       | [],hchk=>simp [Jj2] at hchk
       | _::_::_,hchk=>simp [Jj2] at hchk
      have hst:=Kg2 (P:=P) g4 hkt g3.2.1 hl1 w
      have hmod:(o.modify j fun e=>{ e with key:=y }).toList=o.toList.set j { x1 with key:=y }:=by
       apply List.ext_getElem?
       intro i
       rw [Array.getElem?_toList,Array.getElem?_modify]
       by_cases hi:j=i
       ·subst hi
        rw [if_pos rfl,ho,List.getElem?_set_self (by simpa using hj)];rfl
       ·rw [if_neg hi,List.getElem?_set_ne hi,Array.getElem?_toList]
      obtain ⟨q1,q2,q3⟩:=hm.setMap (P:=P) hb hkind hcells hρ hheap (clock:=clock) (es:=es.set j (e.1,kc,e.2.2)) (o:=o.modify j fun e=>{ e with key:=y }) (by
       rw [hmod];exact hall.set ⟨g3.1,hkt,g3.2.2.1,AV.ent_ok hent,g3.2.2.2.2⟩)
      refine ⟨.tuple #[x1.val,goInt x1.born],_,ρ,?_,⟨_,rfl,g3.2.2.1,by show Value.int .i64 _=_;rw [g3.1],trivial⟩,q2,q3⟩
      simp only [Instr.mapEntry,Sem.run_bind,run_underlying hu,Result.andThen_ok,hg,Jg2 hchk hkt,hrun,ho,Option.map_some,Option.getD_some,hst,q1,Sem.run_pure]
   ·cases h
  ·cases h
 ·cases h
def Jq6 (x st y:AV)(mem:Ja1):Option Ja1 :=
 match x,st,y.ent with
 | .one (.mp r ver),.one (.int .i64 s),some (va',vc)=>match Kd1 mem r ver with
  | some (_,va,clock,es)=>if va=va' then
    match es.findIdx? (fun e=>(e.1:Int) ==s) with
    | some j=>match es[j]? with
     | some e=>some (setMap mem r clock (es.set j (e.1,e.2.1,vc)))
     | none=>none
    | none=>none
   else none
  | none=>none
 | _,_,_=>none
theorem Ko2 {ρ:Env}{ka va:Bool}(s:Int):∀ {es:List (Nat × List CV × List CV)} {o:List MapEntry},All2 (Vk2 ρ ka va) es o->o.findIdx? (fun e=>(e.born:Int) ==s)=es.findIdx? (fun e=>(e.1:Int) ==s)
 | [],[],_=>rfl
 | e::es,x::o,h=>by
  rw [List.findIdx?_cons,List.findIdx?_cons,h.1.1,Ko2 s h.2]
 | [],_::_,h=>h.elim
 | _::_,[],h=>h.elim
theorem Kk4 {ρ:Env}{mem mem':Ja1}{w:World}(hm:RepM ρ mem w){x st z:AV}{u y v:Value}(h:Jq6 x st z mem=some mem')(hx:VR ρ x u)(hs:VR ρ st y)(hz:VR ρ z v) :
  ∃ w',(∀ t,(Instr.entryStore t u y v).run P w=.ok () w')/\RepM ρ mem' w'/\Step mem ρ w mem' ρ w':=by
 unfold Jq6 at h
 split at h
 ·rename_i r ver s va' vc hent2
  split at h
  ·rename_i ka va clock es hmap
   split at h
   ·rename_i hva
    subst hva
    obtain ⟨b,n,kk,o,hb,hver,hkind,hcells,hρ,rfl,hheap,hall⟩:=Jh8 hm hmap hx
    subst hver
    have hvt:=hz.ent hent2
    have hg:(getObj n).run P w=.ok (.map o clock) w:=by simp [getObj,Sem.run,hheap]
    have e1:y=.int .i64 s:=hs
    subst e1
    split at h
    ·rename_i j hj
     split at h
     ·rename_i e he
      injection h with h;subst h
      have hfo:o.findIdx? (fun e=>(e.born:Int) ==s)=some j:=by
       rw [show o.findIdx? (fun e=>(e.born:Int) ==s)=o.toList.findIdx? (fun e=>(e.born:Int) ==s) by (obtain ⟨l⟩:=o;simp),Ko2 s hall];exact hj
      obtain ⟨x1,hx1,g3⟩:=hall.get he
      have ho:o[j]?=some x1:=by simpa using hx1
      obtain ⟨hjl,_⟩:=Array.getElem?_eq_some_iff.1 ho
      have hmod:(o.modify j fun e=>{ e with val:=v }).toList=o.toList.set j { x1 with val:=v }:=by
       apply List.ext_getElem?
       intro i
       rw [Array.getElem?_toList,Array.getElem?_modify]
       by_cases hi:j=i
       ·subst hi
        rw [if_pos rfl,ho,List.getElem?_set_self (by simpa using hjl)];rfl
       ·rw [if_neg hi,List.getElem?_set_ne hi,Array.getElem?_toList]
      obtain ⟨q1,q2,q3⟩:=hm.setMap (P:=P) hb hkind hcells hρ hheap (clock:=clock) (es:=es.set j (e.1,e.2.1,vc)) (o:=o.modify j fun e=>{ e with val:=v }) (by
       rw [hmod];exact hall.set ⟨g3.1,g3.2.1,hvt,g3.2.2.2.1,AV.ent_ok hent2⟩)
      refine ⟨_,fun t=>?_,q2,q3⟩
      simp [Instr.entryStore,Sem.run_bind,Result.andThen_ok,hg,asInt,asIntOf,hfo,q1]
     ·cases h
    ·cases h
   ·cases h
  ·cases h
 ·cases h
def Xm5 (P:Program)(t:TypeId)(x:AV)(mem:Ja1):Option AV :=
 match x with
 | .one (.mp r ver)=>match P.underlying t,Kd1 mem r ver with
  | some (.map _ _),some (_,_,_,es)=>if es.length<9223372036854775808 then some (.one (.int .i64 es.length)) else none
  | _,_=>none
 | .one .nilm=>match P.underlying t with
  | some (.map _ _)=>some (.one (.int .i64 0))
  | _=>none
 | x=>lenA P t x
theorem Vn1 {ρ:Env}{mem:Ja1}{w:World}(hm:RepM ρ mem w){t ty:TypeId}{x z:AV}{u:Value}(h:Xm5 P t x mem=some z)(hx:VR ρ x u):∃ v,(Builtin.len_ #[t] ty #[u]).run P w=.ok v w/\VR ρ z v:=by
 unfold Xm5 at h
 split at h
 ·rename_i r ver
  split at h
  ·rename_i kt et ka va clock es hu hmap
   split at h
   ·rename_i hlt
    injection h with h;subst h
    obtain ⟨b,n,kk,o,hb,hver,hkind,hcells,hρ,rfl,hheap,hall⟩:=Jh8 hm hmap hx
    have hg:(getObj n).run P w=.ok (.map o clock) w:=by simp [getObj,Sem.run,hheap]
    refine ⟨goInt o.size,?_,?_⟩
    ·simp [Builtin.len_,run_underlying hu,hg]
    ·have hl:=hall.length
     simp only [Array.length_toList] at hl
     show goInt _=_
     rw [<-hl];rfl
   ·cases h
  ·cases h
 ·split at h
  ·rename_i kt et hu
   injection h with h;subst h
   have e:u=_:=hx
   subst e
   exact ⟨goInt 0,by simp [Builtin.len_,run_underlying hu],rfl⟩
  ·cases h
 ·exact Vn2 P h hx w
def Qc8 (P:Program)(t:TypeId)(x:AV)(mem:Ja1):Option (AV × Ja1) :=
 match P.underlying t,x with
 | some (.map _ _),.one (.mp r ver)=>match Kd1 mem r ver with
  | some (_,_,clock,_)=>some (.tup [],setMap mem r clock [])
  | none=>none
 | some (.map _ _),.one .nilm=>some (.tup [],mem)
 | _,_=>none
theorem Qr5 {ρ:Env}{mem mem':Ja1}{w:World}(hm:RepM ρ mem w){t ty:TypeId}{x z:AV}{u:Value}(h:Qc8 P t x mem=some (z,mem'))(hx:VR ρ x u) :
  ∃ v w' ρ',(Builtin.clear_ #[t] ty #[u]).run P w=.ok v w'/\VR ρ' z v/\RepM ρ' mem' w'/\Step mem ρ w mem' ρ' w':=by
 unfold Qc8 at h
 split at h
 ·rename_i kt et r ver hu
  split at h
  ·rename_i ka va clock es hmap
   injection h with h;injection h with h1 h2;subst h1;subst h2
   obtain ⟨b,n,kk,o,hb,hver,hkind,hcells,hρ,rfl,hheap,hall⟩:=Jh8 hm hmap hx
   subst hver
   have hg:(getObj n).run P w=.ok (.map o clock) w:=by simp [getObj,Sem.run,hheap]
   obtain ⟨q1,q2,q3⟩:=hm.setMap (P:=P) hb hkind hcells hρ hheap (clock:=clock) (es:=[]) (o:=#[]) trivial
   refine ⟨.tuple #[],_,ρ,?_,⟨#[],rfl,trivial⟩,q2,q3⟩
   simp [Builtin.clear_,run_underlying hu,hg,q1]
  ·cases h
 ·rename_i kt et hu
  injection h with h;injection h with h1 h2;subst h1;subst h2
  have e:u=_:=hx
  subst e
  refine ⟨.tuple #[],w,ρ,?_,⟨#[],rfl,trivial⟩,hm,Step.refl _ _ _⟩
  simp [Builtin.clear_,run_underlying hu]
 ·cases h
def Kp2 (P:Program)(t:TypeId)(x k:AV)(mem:Ja1):Option (AV × Ja1) :=
 match P.underlying t,x,k.ent with
 | some (.map kt _),.one (.mp r ver),some (ka',kc)=>match Kd1 mem r ver with
  | some (ka,_,clock,es)=>if ka=ka'/\Jj2 P kt ka kc=true then
    match Jy3 kc es with
    | some (some j)=>some (.tup [],setMap mem r clock (es.eraseIdx j))
    | some none=>some (.tup [],setMap mem r clock es)
    | none=>none
   else none
  | none=>none
 | _,_,_=>none
theorem All2.eraseIdx {α β:Type}{R:α->β->Prop}:∀ {xa:List α} {bs:List β},All2 R xa bs->∀ i,All2 R (xa.eraseIdx i) (bs.eraseIdx i)
 | [],[],_,i=>by simp [All2]
 | _::_,_::_,h,0=>by simpa using h.2
 | _::xa,_::bs,h,i+1=>by simpa using ⟨h.1,All2.eraseIdx h.2 i⟩
 | [],_::_,h,_=>h.elim
 | _::_,[],h,_=>h.elim
theorem Qf1 {ρ:Env}{mem mem':Ja1}{w:World}(hm:RepM ρ mem w){t t2 ty:TypeId}{x k z:AV}{u y:Value}(h:Kp2 P t x k mem=some (z,mem'))(hx:VR ρ x u)(hk:VR ρ k y) :
  ∃ v w' ρ',(Builtin.delete_ #[t,t2] ty #[u,y]).run P w=.ok v w'/\VR ρ' z v/\RepM ρ' mem' w'/\Step mem ρ w mem' ρ' w':=by
 unfold Kp2 at h
 split at h
 ·rename_i kt et r ver ka' kc hu hent
  split at h
  ·rename_i ka va clock es hmap
   split at h
   ·rename_i hcond
    obtain ⟨rfl,hchk⟩:=hcond
    obtain ⟨b,n,kk,o,hb,hver,hkind,hcells,hρ,rfl,hheap,hall⟩:=Jh8 hm hmap hx
    subst hver
    have hkt:=hk.ent hent
    have hg:(getObj n).run P w=.ok (.map o clock) w:=by simp [getObj,Sem.run,hheap]
    cases hf:Jy3 kc es with
    | none=>rw [hf] at h;cases h
    | some rr =>
     obtain ⟨res,hrun,hfound⟩:=Jo1 hchk hkt hall hf w
     rw [hf] at h
     rcases hfound with ⟨rfl,rfl⟩|⟨j,e,x1,rfl,g1,g2,g3,g4,rfl⟩
     ·injection h with h;injection h with h1 h2;subst h1;subst h2
      obtain ⟨q1,q2,q3⟩:=hm.setMap (P:=P) hb hkind hcells hρ hheap (clock:=clock) (es:=es) (o:=o) hall
      refine ⟨.tuple #[],_,ρ,?_,⟨#[],rfl,trivial⟩,q2,q3⟩
      simp [Builtin.delete_,run_underlying hu,hg,Jg2 hchk hkt,hrun,q1]
     ·injection h with h;injection h with h1 h2;subst h1;subst h2
      obtain ⟨q1,q2,q3⟩:=hm.setMap (P:=P) hb hkind hcells hρ hheap (clock:=clock) (es:=es.eraseIdx j) (o:=o.eraseIdxIfInBounds j) (by
       have e:(o.eraseIdxIfInBounds j).toList=o.toList.eraseIdx j:=by
        unfold Array.eraseIdxIfInBounds
        split
        ·simp
        ·rename_i hlt
         rw [List.eraseIdx_of_length_le (by simpa using hlt)]
       rw [e];exact hall.eraseIdx j)
      refine ⟨.tuple #[],_,ρ,?_,⟨#[],rfl,trivial⟩,q2,q3⟩
      simp [Builtin.delete_,run_underlying hu,hg,Jg2 hchk hkt,hrun,q1]
   ·cases h
  ·cases h
 ·cases h
def Qa7 (P:Program)(t:TypeId)(x:AV)(mem:Ja1):Option (AV × Ja1) :=
 match P.underlying t,x with
 | some (.map _ _),.one (.mp r 0)=>match Kd1 mem r 0 with
  | some (_,_,clock,_)=>some (.one (.ptr mem.length 0 0),mem++[⟨.iter r clock [] clock,t,0,0,[]⟩])
  | none=>none
 | _,_=>none
theorem Qr0 {ρ:Env}{mem mem':Ja1}{w:World}(hm:RepM ρ mem w){t:TypeId}{x z:AV}{u:Value}(h:Qa7 P t x mem=some (z,mem'))(hx:VR ρ x u) :
  ∃ v w' ρ',(Instr.range t u).run P w=.ok v w'/\VR ρ' z v/\RepM ρ' mem' w'/\Step mem ρ w mem' ρ' w':=by
 unfold Qa7 at h
 split at h
 ·rename_i kt et r hu
  split at h
  ·rename_i ka va clock es hmap
   injection h with h;injection h with h1 h2;subst h1;subst h2
   obtain ⟨b,n,kk,o,hb,hver,hkind,hcells,hρ,rfl,hheap,hall⟩:=Jh8 hm hmap hx
   have hg:(getObj n).run P w=.ok (.map o clock) w:=by simp [getObj,Sem.run,hheap]
   have hrl:r<mem.length:=(List.getElem?_eq_some_iff.1 hb).1
   have hbk:BlkR (ρ.set mem.length 0 (some ⟨w.heap.size,0,none⟩,0)) (w.alloc (.mapIter (some n) clock #[] clock)) mem.length ⟨.iter r clock [] clock,t,0,0,[]⟩ :=
    ⟨w.heap.size,n,0,kk,Env.set_same _ _ _ _,by rw [Env.set_other ρ _ (by omega)];exact hρ,by show (w.heap.push _)[w.heap.size]?=_;simp,rfl⟩
   obtain ⟨g1,g2⟩:=hm.new (.mapIter (some n) clock #[] clock) ⟨.iter r clock [] clock,t,0,0,[]⟩ (some ⟨w.heap.size,0,none⟩) 0 (fun x hx=>by injection hx with hx;subst hx;rfl) (by simp) hbk
   refine ⟨.pointer (some ⟨w.heap.size,0,none⟩),_,_,?_,⟨⟨w.heap.size,0,none⟩,0,Env.set_same _ _ _ _,by simp [Addr.add]⟩,g1,g2⟩
   simp only [Instr.range,Sem.run_bind,run_underlying hu,Result.andThen_ok,hg,Sem.run_pure]
   rfl
  ·cases h
 ·cases h
def Qc7 (x:AV)(mem:Ja1):Option AV :=
 match x with
 | .one (.ptr ri 0 0)=>match mem[ri]? with
  | some ⟨.iter rm _ seen last,_,0,_,_⟩=>match Kd1 mem rm 0,seen.getLast? with
   | some (ka,va,clock,es),some s=>if clock=last then match es.find? (fun e=>e.1 ==s) with
     | some e=>some (.tup [(ka,e.2.1),(va,e.2.2)])
     | none=>none
    else none
   | _,_=>none
  | _=>none
 | _=>none
theorem Qo2 {ρ:Env}{ka va:Bool}(s:Nat):∀ {es:List (Nat × List CV × List CV)} {o:List MapEntry},All2 (Vk2 ρ ka va) es o->∀ {e},es.find? (fun e=>e.1 ==s)=some e->∃ x,o.find? (·.born ==s)=some x/\Vk2 ρ ka va e x
 | [],[],_,e,h=>by simp at h
 | e0::es,x0::o,ho,e,h=>by
  rw [List.find?_cons] at h
  rw [List.find?_cons]
  have hb:(x0.born ==s)=(e0.1 ==s):=by rw [ho.1.1]
  rw [hb]
  cases hq:e0.1 ==s with
  | true=>rw [hq] at h;injection h with h;subst h;exact ⟨x0,rfl,ho.1⟩
  | false=>rw [hq] at h;exact Qo2 s ho.2 h
 | [],_::_,h,_,_=>h.elim
 | _::_,[],h,_,_=>h.elim
theorem Qs7 {ρ:Env}{mem:Ja1}{w:World}(hm:RepM ρ mem w){ri rm since last ty esz:Nat}{seen:List Nat}{cells:List CV}(hb:mem[ri]?=some ⟨.iter rm since seen last,ty,0,esz,cells⟩){v:Value}(hv:VC ρ (.ptr ri 0 0) v) :
  ∃ n N k k',ρ ri 0=some (some ⟨n,0,none⟩,k)/\ρ rm 0=some (some ⟨N,0,none⟩,k')/\w.heap[n]?=some (.mapIter (some N) since seen.toArray last)/\cells=[]/\v=.pointer (some ⟨n,0,none⟩):=by
 obtain ⟨n,N,k,k',h1,h2,h3,h4⟩:=hm.blk ri _ hb
 obtain ⟨a,kk,h5,h6⟩:=hv
 rw [h1] at h5;injection h5 with h5;injection h5 with h5 _;injection h5 with h5
 refine ⟨n,N,k,k',h1,h2,h3,h4,?_⟩
 rw [h6,<-h5];simp [Addr.add]
theorem Qr4 {ρ:Env}{mem:Ja1}{w:World}(hm:RepM ρ mem w){x z:AV}{u:Value}(h:Qc7 x mem=some z)(hx:VR ρ x u):∃ v,(Instr.entry u).run P w=.ok v w/\VR ρ z v:=by
 unfold Qc7 at h
 split at h
 ·rename_i ri
  split at h
  ·rename_i rm since seen last ty esz cells hb
   split at h
   ·rename_i ka va clock es s hmap hlast
    split at h
    ·rename_i hcl
     subst hcl
     split at h
     ·rename_i e he
      injection h with h;subst h
      obtain ⟨n,N,k,k',h1,h2,h3,h4,rfl⟩:=Qs7 hm hb hx
      obtain ⟨b,N',kk,o,hb',hver,hkind,hcells,hρ,hvv,hheap,hall⟩:=Jh8 hm hmap (v:=.map (some N)) ⟨N,k',h2,rfl⟩
      injection hvv with hvv;injection hvv with hvv;subst hvv
      obtain ⟨y,hy1,hy2⟩:=Qo2 s hall he
      have hg1:(getObj n).run P w=.ok (.mapIter (some N) since seen.toArray clock) w:=by simp [getObj,Sem.run,h3]
      have hg2:(getObj N).run P w=.ok (.map o clock) w:=by simp [getObj,Sem.run,hheap]
      have hbk:seen.toArray.back?=some s:=by rw [<-hlast];simp
      have hfd:o.find? (fun e=>e.born ==s)=some y:=by rw [<-Array.find?_toList];exact hy1
      refine ⟨.tuple #[y.key,y.val],?_,_,rfl,hy2.2.1,hy2.2.2.1,trivial⟩
      simp only [Instr.entry,Sem.run_bind,hg1,Result.andThen_ok,hbk,hg2,bne_self_eq_false,Bool.false_eq_true,if_false,hfd,Sem.run_pure]
     ·cases h
    ·cases h
   ·cases h
  ·cases h
 ·cases h
theorem Jo4 (r v:Nat):Kd1 [] r v=none:=by simp [Kd1]
theorem Vs0 {t:TypeId}{x z:AV}(h:Xm5 P t x []=some z)(M:Ja1):Xm5 P t x M=some z:=by
 unfold Xm5 at h ⊢
 split at h
 ·rw [Jo4] at h;split at h<;>simp_all
 ·exact h
 ·exact h
end
section
variable (P:Program)
def Kj0 (b:Builtin)(ts:List TypeId)(xs:List AV)(mem:Ja1):Option (AV × Ja1) :=
 match b,ts,xs with
 | .len,[t],[x]=>(Xm5 P t x mem).map fun z=>(z,mem)
 | .append,[t,t'],[s,x]=>if t=t' then Kp7 P t s x mem else none
 | .copy,[t,_],[s,x]=>Vh3 P t s x mem
 | .unsafeSliceData,[_],[x]=>(usdA x).map fun z=>(z,mem)
 | .unsafeString,[t,_],[x,n]=>usA P t x n mem
 | .min,_,xs=>(mm minI xs).map fun z=>(z,mem)
 | .max,_,xs=>(mm maxI xs).map fun z=>(z,mem)
 | .clear,[t],[x]=>Qc8 P t x mem
 | .delete,[t,_],[x,k]=>Kp2 P t x k mem
 | _,_,_=>none
def bmA (f:FuncId):List AV->Option AV
 | [.agg cs]=>(svL cs).map fun l=>.one (.bm f l)
 | _=>none
def Ji0 (e:Operand->AV)(mem:Ja1):Op->Option (AV × Ja1)
 | .move x=>some (e x,mem)
 | .assign x=>some (e x,mem)
 | .pick c a b=>match e c with
  | .one (.bool c)=>some (selA c (e a) (e b),mem)
  | _=>none
 | .alloc t=>Qd6 P t mem
 | .box t x=>Yc6 t (e x) mem
 | .build t ps=>(Qp3 P t (ps.toList.map fun p=>(p.1,e p.2))).map fun z=>(z,mem)
 | .buildSlice t n ps=>Jq7 P t n (ps.toList.map fun p=>(p.1,e p.2)) mem
 | .load t x=>(Jt3 P t (e x) mem).map fun z=>(z,mem)
 | .nilCheck x=>match e x with
  | .one (.ptr r v o)=>some (.one (.ptr r v o),mem)
  | .one (.fn f cs)=>some (.one (.fn f cs),mem)
  | .one (.gp g o)=>some (.one (.gp g o),mem)
  | _=>none
 | .binOp op t x y _=>(binN P op t y (e x) (e y)).map fun z=>(z,mem)
 | .unOp op _ x=>(unA op (e x)).map fun z=>(z,mem)
 | .convert s d x=>Qh0 P s d (e x) mem
 | .slice t x lo hi none=>(Kj8 P t (e x) (lo.map e) (hi.map e) mem).map fun z=>(z,mem)
 | .fieldAddr t x f=>(Jz3 P t (e x) f).map fun z=>(z,mem)
 | .field t x f=>(Qo3 P t (e x) f).map fun z=>(z,mem)
 | .indexAddr t x i=>(Jz0 P t (e x) (e i)).map fun z=>(z,mem)
 | .sliceToArrayPointer t x=>(Kx8 P t (e x)).map fun z=>(z,mem)
 | .index t x i=>(Qm5 P t (e x) (e i)).map fun z=>(z,mem)
 | .extract x i=>(Ki7 (e x) i).map fun z=>(z,mem)
 | .makeFunc (.func f) first caps=>if first.size=0 then (Qu0 (caps.toList.map e)).map fun cs=>(.one (.fn f cs),mem) else if caps.size=0 then (bmA f (first.toList.map e)).map fun z=>(z,mem) else none
 | .makeSlice t l c=>Ve3 P t (e l) (e c) mem
 | .call ⟨.builtin b,args,ts⟩=>Kj0 P b ts.toList (args.toList.map e) mem
 | .makeMap t none=>Kd2 P t mem
 | .lookup t x k ok=>(Kn3 P t (e x) (e k) ok mem).map fun z=>(z,mem)
 | .mapUpdate t x k y=>(Qb3 P t (e x) (e k) (e y) mem).map fun m=>(.one .und,m)
 | .mapEntry t x k=>Jx9 P t (e x) (e k) mem
 | .entryStore _ x st y=>(Jq6 (e x) (e st) (e y) mem).map fun m=>(.one .und,m)
 | .range t x=>Qa7 P t (e x) mem
 | .entry x=>(Qc7 (e x) mem).map fun z=>(z,mem)
 | _=>none
variable {P}
theorem Js7 {α β γ:Type}{R:β->γ->Prop}{f:α->β}{g:α->γ}(h:∀ x,R (f x) (g x)):∀ l:List α,All2 R (l.map f) (l.map g)
 | []=>trivial
 | x::l=>⟨h x,Js7 h l⟩
section
variable {e:Operand->Value}{o:Oper}
theorem Xo5 {x:Operand}(h:o.op=.move x):execOp e o=pure (.value (e x)):=by simp only [execOp,h]
theorem Vg7 {x:Operand}(h:o.op=.assign x):execOp e o=pure (.value (e x)):=by simp only [execOp,h]
theorem Xo4 {c x y:Operand}(h:o.op=.pick c x y):execOp e o=(do pure (.value (if <-asBool (e c) then e x else e y))):=by simp only [execOp,h]
theorem Qo6 {t:TypeId}(h:o.op=.alloc t):execOp e o=(do pure (.value (<-Instr.alloc t true (.tuple #[])))):=by simp only [execOp,h]
theorem Ya5 {t:TypeId}{x:Operand}(h:o.op=.box t x):execOp e o=(do pure (.value (<-Instr.box t (e x)))):=by simp only [execOp,h]
theorem Vv0 {t:TypeId}{ps:Array (Nat × Operand)}(h:o.op=.build t ps):execOp e o=(do pure (.value (<-Instr.build t (ps.map fun (i,x)=>(i,e x))))):=by simp only [execOp,h]
theorem Kx3 {t n:Nat}{ps:Array (Nat × Operand)}(h:o.op=.buildSlice t n ps):execOp e o=(do pure (.value (<-Instr.buildSlice t n (ps.map fun (i,x)=>(i,e x))))):=by simp only [execOp,h]
theorem Xo6 {t:TypeId}{x:Operand}(h:o.op=.load t x):execOp e o=(do pure (.value (<-Instr.loadAt t (e x)))):=by simp only [execOp,h]
theorem Qo5 {t:TypeId}{x y:Operand}(h:o.op=.store t x y):execOp e o=(do Instr.storeAt t (e x) (e y);pure .skip):=by simp only [execOp,h]
theorem Qt3 {x:Operand}{a:Addr}(h:o.op=.nilCheck x)(hx:e x=.pointer (some a)):execOp e o=pure (.value (.pointer (some a))):=by simp only [execOp,h,hx]
theorem Qg5 {x:Operand}{f:FuncId}{c:Array Value}(h:o.op=.nilCheck x)(hx:e x=.func (.func f) #[] c):execOp e o=pure (.value (.func (.func f) #[] c)):=by simp only [execOp,h,hx]
theorem Vv1 {op:BinOp}{t yt:TypeId}{x y:Operand}(h:o.op=.binOp op t x y yt):execOp e o=(do pure (.value (<-(do eqGuard op t x y (e x) (e y);binOp op t (e x) (e y))))):=by simp only [execOp,h]
theorem Xo3 {op:UnOp}{t:TypeId}{x:Operand}(h:o.op=.unOp op t x):execOp e o=(do pure (.value (<-Op.unary op (e x)))):=by simp only [execOp,h]
theorem Qt6 {t s:TypeId}{x:Operand}(h:o.op=.convert t s x):execOp e o=(do pure (.value (<-convert t s (e x)))):=by simp only [execOp,h]
theorem Vu5 {t:TypeId}{x:Operand}{lo hi mx:Option Operand}(h:o.op=.slice t x lo hi mx):execOp e o=(do pure (.value (<-Instr.sliceAt t (e x) (lo.map e) (hi.map e) (mx.map e)))):=by simp only [execOp,h]
theorem Qc6 {t:TypeId}{x:Operand}{f:Nat}(h:o.op=.fieldAddr t x f):execOp e o=(do pure (.value (<-Instr.fieldAt t (e x) f))):=by simp only [execOp,h]
theorem Vu8 {t:TypeId}{x:Operand}{f:Nat}(h:o.op=.field t x f):execOp e o=(do pure (.value (<-Instr.field t (e x) f))):=by simp only [execOp,h]
theorem Vg8 {t:TypeId}{x:Operand}(h:o.op=.sliceToArrayPointer t x):execOp e o=(do pure (.value (<-Instr.arrayAt t (e x)))):=by simp only [execOp,h]
theorem Qc5 {t:TypeId}{x i:Operand}(h:o.op=.indexAddr t x i):execOp e o=(do pure (.value (<-Instr.indexAt t (e x) (e i)))):=by simp only [execOp,h]
theorem Vu7 {t:TypeId}{x i:Operand}(h:o.op=.index t x i):execOp e o=(do pure (.value (<-Instr.index t (e x) (e i)))):=by simp only [execOp,h]
theorem Qt5 {x:Operand}{i:Nat}(h:o.op=.extract x i):execOp e o=(do pure (.value (<-Instr.extract (e x) i))):=by simp only [execOp,h]
theorem Ko5 {fn:Fn}{f c:Array Operand}(h:o.op=.makeFunc fn f c):execOp e o=(do pure (.value (<-Instr.makeFunc fn (f.map e) (c.map e)))):=by simp only [execOp,h]
theorem Qc4 {t:TypeId}{l c:Operand}(h:o.op=.makeSlice t l c):execOp e o=(do pure (.value (<-Instr.makeSlice t (e l) (e c)))):=by simp only [execOp,h]
theorem Qt2 {x:Operand}{v:Value}(h:o.op=.nilCheck x)(hx:e x=v)(hp:∃ a,v=.pointer (some a)):execOp e o=pure (.value v):=by obtain ⟨a,rfl⟩:=hp;simp only [execOp,h,hx]
theorem Qt4 {t:TypeId}(h:o.op=.makeMap t none):execOp e o=(do pure (.value (<-Instr.makeMap t none))):=by simp only [execOp,h,Option.map_none]
theorem Vg6 {t:TypeId}{x k:Operand}{ok:Bool}(h:o.op=.lookup t x k ok):execOp e o=(do pure (.value (<-Instr.lookup t (e x) (e k) ok))):=by simp only [execOp,h]
theorem Qg6 {t:TypeId}{x k:Operand}(h:o.op=.mapEntry t x k):execOp e o=(do pure (.value (<-Instr.mapEntry t (e x) (e k)))):=by simp only [execOp,h]
theorem Kx1 {t:TypeId}{x k y:Operand}(h:o.op=.entryStore t x k y):execOp e o=(do Instr.entryStore t (e x) (e k) (e y);pure .skip):=by simp only [execOp,h]
theorem Qc3 {t:TypeId}{x k y:Operand}(h:o.op=.mapUpdate t x k y):execOp e o=(do Instr.mapUpdate t (e x) (e k) (e y);pure .skip):=by simp only [execOp,h]
theorem Vu6 {t:TypeId}{x:Operand}(h:o.op=.range t x):execOp e o=(do pure (.value (<-Instr.range t (e x)))):=by simp only [execOp,h]
theorem Vu9 {x:Operand}(h:o.op=.entry x):execOp e o=(do pure (.value (<-Instr.entry (e x)))):=by simp only [execOp,h]
theorem Kx2 {c:Call}(h:o.op=.call c):execOp e o=(do let d <-resolve e c o.type;invoke d.target d.args):=by simp only [execOp,h]
end
def Xr1 (r:Result Next)(v:Value)(w':World):Prop:=r=.ok (.value v) w'\/(r=.ok .skip w'/\v=undef)
theorem Ko6 {ρ:Env}{nt:Nat}{tm:Tm}{mem mem':Ja1}{a:Act}{w:World}(hr:Rep ρ nt tm mem a w){o:Oper}{x:AV}(h:Ji0 P (opd tm) mem o.op=some (x,mem')) :
  ∃ v w' ρ',Xr1 ((execOp a.eval o).run P w) v w'/\VR ρ' x v/\RepM ρ' mem' w'/\Step mem ρ w mem' ρ' w':=by
 have pure_ok:∀ {s:Sem Value} {z:AV},mem'=mem->x=z->(∃ v,s.run P w=.ok v w/\VR ρ z v)->∃ v w' ρ',Xr1 ((do pure (Next.value (<-s)):Sem Next).run P w) v w'/\VR ρ' x v/\RepM ρ' mem' w'/\Step mem ρ w mem' ρ' w':=by
  rintro s z rfl rfl ⟨v,h1,h2⟩
  exact ⟨v,w,ρ,.inl (by simp [h1]),h2,hr.mem,Step.refl _ _ _⟩
 have mem_ok:∀ {s:Sem Value},(∃ v w' ρ',s.run P w=.ok v w'/\VR ρ' x v/\RepM ρ' mem' w'/\Step mem ρ w mem' ρ' w')->∃ v w' ρ',Xr1 ((do pure (Next.value (<-s)):Sem Next).run P w) v w'/\VR ρ' x v/\RepM ρ' mem' w'/\Step mem ρ w mem' ρ' w':=by
  rintro s ⟨v,w',ρ',h1,h2,h3,h4⟩
  exact ⟨v,w',ρ',.inl (by simp [h1]),h2,h3,h4⟩
 have mp:∀ {y:Option AV} {z:AV × Ja1},(y.map fun z=>(z,mem))=some z->∃ q,y=some q/\q=z.1/\z.2=mem:=by
  intro y z h
  simp only [Option.map_eq_some_iff] at h
  obtain ⟨q,hq,rfl⟩:=h
  exact ⟨q,hq,rfl,rfl⟩
 have hparts:∀ ps:Array (Nat × Operand),All2 (fun (p:Nat × AV) (q:Nat × Value)=>p.1=q.1/\VR ρ p.2 q.2) (ps.toList.map fun p=>(p.1,opd tm p.2)) (ps.toList.map fun p=>(p.1,a.eval p.2)) :=
  fun ps=>Js7 (fun p=>⟨rfl,hr.opd p.2⟩) _
 generalize hop:o.op=op at h
 unfold Ji0 at h
 split at h
 ·injection h with h;injection h with h1 h2;subst h1;subst h2
  rw [Xo5 hop]
  exact ⟨_,w,ρ,.inl rfl,hr.opd _,hr.mem,Step.refl _ _ _⟩
 ·injection h with h;injection h with h1 h2;subst h1;subst h2
  rw [Vg7 hop]
  exact ⟨_,w,ρ,.inl rfl,hr.opd _,hr.mem,Step.refl _ _ _⟩
 ·rename_i c p q
  split at h
  ·rename_i cb hc
   injection h with h;injection h with h1 h2;subst h1;subst h2
   have hcv:=hr.opd c
   rw [hc] at hcv
   have e:a.eval c=.bool cb:=hcv
   rw [Xo4 hop]
   refine ⟨if cb=true then a.eval p else a.eval q,w,ρ,.inl ?_,Xr0 (hr.opd p) (hr.opd q),hr.mem,Step.refl _ _ _⟩
   simp only [e,asBool,Sem.run_bind,Sem.run_pure,Result.andThen_ok]
  ·cases h
 ·rw [Qo6 hop];exact mem_ok (Qr6 P hr.mem h)
 ·rw [Ya5 hop];exact mem_ok (Vn4 P hr.mem h (hr.opd _))
 ·rename_i t ps
  obtain ⟨q,hq,e1,e2⟩:=mp h
  rw [Vv0 hop]
  refine pure_ok e2 e1.symm ?_
  have:=Qz6 P hq (hparts ps) w
  rwa [show (ps.toList.map fun p=>(p.1,a.eval p.2)).toArray=ps.map fun (i,x)=>(i,a.eval x) by rw [<-Array.toList_map]] at this
 ·rename_i t n ps
  rw [Kx3 hop]
  refine mem_ok ?_
  have:=Kk5 P hr.mem h (hparts ps)
  rwa [show (ps.toList.map fun p=>(p.1,a.eval p.2)).toArray=ps.map fun (i,x)=>(i,a.eval x) by rw [<-Array.toList_map]] at this
 ·obtain ⟨q,hq,e1,e2⟩:=mp h
  rw [Xo6 hop]
  exact pure_ok e2 e1.symm (Kz7 P hr.mem hq (hr.opd _))
 ·rename_i y
  split at h
  ·rename_i r v off hy
   injection h with h;injection h with h1 h2;subst h1;subst h2
   have hv:=hr.opd y
   rw [hy] at hv
   obtain ⟨ad,k,hk,e⟩:=hv
   rw [Qt3 hop e]
   exact ⟨_,w,ρ,.inl rfl,⟨ad,k,hk,rfl⟩,hr.mem,Step.refl _ _ _⟩
  ·rename_i f cs hy
   injection h with h;injection h with h1 h2;subst h1;subst h2
   have hv:=hr.opd y
   rw [hy] at hv
   obtain ⟨vs,e,hall⟩:=hv
   rw [Qg5 hop e]
   exact ⟨_,w,ρ,.inl rfl,⟨vs,rfl,hall⟩,hr.mem,Step.refl _ _ _⟩
  ·rename_i g off hy
   injection h with h;injection h with h1 h2;subst h1;subst h2
   have hv:=hr.opd y
   rw [hy] at hv
   rw [Qt2 hop hv ⟨_,rfl⟩]
   exact ⟨_,w,ρ,.inl rfl,rfl,hr.mem,Step.refl _ _ _⟩
  ·cases h
 ·obtain ⟨q,hq,e1,e2⟩:=mp h
  rw [Vv1 hop]
  exact pure_ok e2 e1.symm (Vn5 P hq (hr.opd _) (hr.opd _) _ w)
 ·obtain ⟨q,hq,e1,e2⟩:=mp h
  rw [Xo3 hop]
  exact pure_ok e2 e1.symm (Xe5 P hq (hr.opd _) w)
 ·rw [Qt6 hop]
  exact mem_ok (Qz3 P hr.mem h (hr.opd _))
 ·rename_i t y lo hi
  obtain ⟨q,hq,e1,e2⟩:=mp h
  rw [Vu5 hop]
  refine pure_ok e2 e1.symm (Qq8 P hr.mem hq (hr.opd y) (ulo:=lo.map a.eval) (uhi:=hi.map a.eval) ?_ ?_ ?_ ?_)
  ·intro z hz;cases lo with
   | none=>cases hz
   | some l=>injection hz with hz;subst hz;exact ⟨_,rfl,hr.opd l⟩
  ·intro hz;cases lo with
   | none=>rfl
   | some l=>cases hz
  ·intro z hz;cases hi with
   | none=>cases hz
   | some l=>injection hz with hz;subst hz;exact ⟨_,rfl,hr.opd l⟩
  ·intro hz;cases hi with
   | none=>rfl
   | some l=>cases hz
 ·obtain ⟨q,hq,e1,e2⟩:=mp h
  rw [Qc6 hop]
  exact pure_ok e2 e1.symm (Kq7 P hq (hr.opd _) w)
 ·obtain ⟨q,hq,e1,e2⟩:=mp h
  rw [Vu8 hop]
  exact pure_ok e2 e1.symm (Qr3 P hq (hr.opd _) w)
 ·obtain ⟨q,hq,e1,e2⟩:=mp h
  rw [Qc5 hop]
  exact pure_ok e2 e1.symm (Kq6 P hq (hr.opd _) (hr.opd _) w)
 ·obtain ⟨q,hq,e1,e2⟩:=mp h
  rw [Vg8 hop]
  exact pure_ok e2 e1.symm (Qf2 P hq (hr.opd _) w)
 ·obtain ⟨q,hq,e1,e2⟩:=mp h
  rw [Vu7 hop]
  exact pure_ok e2 e1.symm (Qr2 P hq (hr.opd _) (hr.opd _) w)
 ·obtain ⟨q,hq,e1,e2⟩:=mp h
  rw [Qt5 hop]
  exact pure_ok e2 e1.symm (Kz8 P hq (hr.opd _) w)
 ·rename_i f first caps
  split at h
  ·rename_i hf
   simp only [Option.map_eq_some_iff] at h
   obtain ⟨cs,hcs,h⟩:=h
   injection h with h1 h2;subst h1;subst h2
   have h0:first=#[]:=Array.eq_empty_of_size_eq_zero hf
   subst h0
   rw [Ko5 hop]
   refine ⟨.func (.func f) #[] (caps.map a.eval),w,ρ,.inl (by simp [Instr.makeFunc]),⟨_,rfl,?_⟩,hr.mem,Step.refl _ _ _⟩
   rw [Array.toList_map]
   exact Qp8 (Js7 (fun y=>hr.opd y) caps.toList) hcs
  ·rename_i hf
   split at h
   ·rename_i hcz
    obtain ⟨q,hq,e1,e2⟩:=mp h
    have h0:caps=#[]:=Array.eq_empty_of_size_eq_zero hcz
    subst h0
    have hargs:All2 (VR ρ) (first.toList.map (opd tm)) (first.toList.map a.eval):=Js7 (fun y=>hr.opd y) first.toList
    rw [Ko5 hop]
    unfold bmA at hq
    split at hq
    ·rename_i cs hcs
     simp only [Option.map_eq_some_iff] at hq
     obtain ⟨l,hl,hq⟩:=hq
     rw [hcs] at hargs
     generalize hvs:first.toList.map a.eval=vs at hargs
     match vs,hargs with
     | [u],hargs =>
      obtain ⟨us,hu,hall⟩:=hargs.1
      subst hu
      have hfm:first.map a.eval=#[.agg us]:=by
       apply Array.ext';rw [Array.toList_map,hvs]
      refine ⟨.func (.func f) #[.agg us] #[],w,ρ,.inl (by simp [Instr.makeFunc,hfm]),?_,?_,?_⟩
      ·have e3:x=.one (.bm f l):=e1.symm.trans hq.symm
       rw [e3];exact ⟨us,rfl,Qx6 hl hall⟩
      ·have e4:mem'=mem:=e2
       rw [e4];exact hr.mem
      ·have e4:mem'=mem:=e2
       rw [e4];exact Step.refl _ _ _
    ·cases hq
   ·cases h
 ·rw [Qc4 hop];exact mem_ok (Qz0 P hr.mem h (hr.opd _) (hr.opd _))
 ·rename_i b args ts
  have hargs:All2 (VR ρ) (args.toList.map (opd tm)) (args.toList.map a.eval):=Js7 (fun y=>hr.opd y) args.toList
  have hea:args.map a.eval=(args.toList.map a.eval).toArray:=by rw [<-Array.toList_map]
  rw [Kx2 hop]
  have hres:∀ {s:Sem Value},(∀ cs,builtin b ts o.type cs (args.map a.eval)=(do pure (Next.value (<-s))))->(do let d <-resolve a.eval ⟨.builtin b,args,ts⟩ o.type;invoke d.target d.args:Sem Next).run P w=(do pure (Next.value (<-s)):Sem Next).run P w:=by
   intro s hb
   simp only [resolve,Sem.run_bind,Sem.run_pure,Result.andThen_ok,invoke,hb]
  unfold Kj0 at h
  split at h
  ·rename_i t y hts hxs
   obtain ⟨q,hq,e1,e2⟩:=mp h
   have hts':ts=#[t]:=by rw [<-Array.toArray_toList (xs:=ts),hts]
   rw [hxs] at hargs
   generalize hvs:args.toList.map a.eval=vs at hargs hea
   match vs,hargs with
   | [u],hargs =>
    rw [hres (s:=Builtin.len_ ts o.type (args.map a.eval)) (fun cs=>rfl)]
    refine pure_ok e2 e1.symm ?_
    rw [hea,hts']
    exact Vn1 hr.mem hq hargs.1
  ·rename_i t t' s y hts hxs
   split at h
   ·rename_i htt
    subst htt
    have hts':ts=#[t,t]:=by rw [<-Array.toArray_toList (xs:=ts),hts]
    rw [hxs] at hargs
    generalize hvs:args.toList.map a.eval=vs at hargs hea
    match vs,hargs with
    | [u1,u2],hargs =>
     rw [hres (s:=Builtin.append_ ts o.type (args.map a.eval)) (fun cs=>rfl)]
     refine mem_ok ?_
     rw [hea,hts']
     exact Qf3 P hr.mem h hargs.1 hargs.2.1
   ·cases h
  ·rename_i t t' s y hts hxs
   have hts':ts=#[t,t']:=by rw [<-Array.toArray_toList (xs:=ts),hts]
   rw [hxs] at hargs
   generalize hvs:args.toList.map a.eval=vs at hargs hea
   match vs,hargs with
   | [u1,u2],hargs =>
    rw [hres (s:=Builtin.copy_ ts o.type (args.map a.eval)) (fun cs=>rfl)]
    refine mem_ok ?_
    rw [hea,hts']
    exact Qz2 P hr.mem h hargs.1 hargs.2.1
  ·rename_i t y hts hxs
   obtain ⟨q,hq,e1,e2⟩:=mp h
   have hts':ts=#[t]:=by rw [<-Array.toArray_toList (xs:=ts),hts]
   rw [hxs] at hargs
   generalize hvs:args.toList.map a.eval=vs at hargs hea
   match vs,hargs with
   | [u],hargs =>
    rw [hres (s:=Builtin.unsafeSliceData_ ts o.type (args.map a.eval)) (fun cs=>rfl)]
    refine pure_ok e2 e1.symm ?_
    rw [hea,hts']
    exact Vm8 P hq hargs.1 w
  ·rename_i t t' y n hts hxs
   have hts':ts=#[t,t']:=by rw [<-Array.toArray_toList (xs:=ts),hts]
   rw [hxs] at hargs
   generalize hvs:args.toList.map a.eval=vs at hargs hea
   match vs,hargs with
   | [u1,u2],hargs =>
    rw [hres (s:=Builtin.unsafeString_ ts o.type (args.map a.eval)) (fun cs=>rfl)]
    refine mem_ok ?_
    rw [hea,hts']
    exact Xe4 P hr.mem h hargs.1 hargs.2.1
  ·obtain ⟨q,hq,e1,e2⟩:=mp h
   rw [hres (s:=Builtin.min_ ts o.type (args.map a.eval)) (fun cs=>rfl)]
   refine pure_ok e2 e1.symm ?_
   rw [hea]
   exact Xe7 P hq hargs w
  ·obtain ⟨q,hq,e1,e2⟩:=mp h
   rw [hres (s:=Builtin.max_ ts o.type (args.map a.eval)) (fun cs=>rfl)]
   refine pure_ok e2 e1.symm ?_
   rw [hea]
   exact Xe8 P hq hargs w
  ·rename_i t y hts hxs
   have hts':ts=#[t]:=by rw [<-Array.toArray_toList (xs:=ts),hts]
   rw [hxs] at hargs
   generalize hvs:args.toList.map a.eval=vs at hargs hea
   match vs,hargs with
   | [u],hargs =>
    rw [hres (s:=Builtin.clear_ ts o.type (args.map a.eval)) (fun cs=>rfl)]
    refine mem_ok ?_
    rw [hea,hts']
    exact Qr5 hr.mem h hargs.1
  ·rename_i t t' y k hts hxs
   have hts':ts=#[t,t']:=by rw [<-Array.toArray_toList (xs:=ts),hts]
   rw [hxs] at hargs
   generalize hvs:args.toList.map a.eval=vs at hargs hea
   match vs,hargs with
   | [u1,u2],hargs =>
    rw [hres (s:=Builtin.delete_ ts o.type (args.map a.eval)) (fun cs=>rfl)]
    refine mem_ok ?_
    rw [hea,hts']
    exact Qf1 hr.mem h hargs.1 hargs.2.1
  ·cases h
 ·rw [Qt4 hop];exact mem_ok (Kz6 hr.mem h)
 ·obtain ⟨q,hq,e1,e2⟩:=mp h
  rw [Vg6 hop]
  exact pure_ok e2 e1.symm (Qe9 hr.mem hq (hr.opd _) (hr.opd _))
 ·simp only [Option.map_eq_some_iff] at h
  obtain ⟨m',hm',h⟩:=h
  injection h with h1 h2;subst h1;subst h2
  obtain ⟨w',g1,g2,g3⟩:=Qr1 hr.mem hm' (hr.opd _) (hr.opd _) (hr.opd _)
  exact ⟨undef,w',ρ,.inr ⟨by rw [Qc3 hop];simp only [Sem.run_bind,g1,Result.andThen_ok,Sem.run_pure],rfl⟩,rfl,g2,g3⟩
 ·rw [Qg6 hop];exact mem_ok (Ku2 hr.mem h (hr.opd _) (hr.opd _))
 ·simp only [Option.map_eq_some_iff] at h
  obtain ⟨m',hm',h⟩:=h
  injection h with h1 h2;subst h1;subst h2
  obtain ⟨w',g1,g2,g3⟩:=Kk4 (P:=P) hr.mem hm' (hr.opd _) (hr.opd _) (hr.opd _)
  exact ⟨undef,w',ρ,.inr ⟨by rw [Kx1 hop];simp only [Sem.run_bind,g1,Result.andThen_ok,Sem.run_pure],rfl⟩,rfl,g2,g3⟩
 ·rw [Vu6 hop];exact mem_ok (Qr0 hr.mem h (hr.opd _))
 ·obtain ⟨q,hq,e1,e2⟩:=mp h
  rw [Vu9 hop]
  exact pure_ok e2 e1.symm (Qr4 hr.mem hq (hr.opd _))
 ·cases h
def Vj7 (P : Program) (f : FuncId) : Prop := ∃ fn, P.funcs[f]? = some fn ∧ (fn.name == "runtime.NumGoroutine") = false ∧ fn.body.isNone = false
def CallsV (P:Program)(f:FuncId)(vs:Array Value)(w:World)(K:Ending->World->Prop):Prop :=
 (Vj7 P f/\Calls P f vs w K)\/∃ v w',(callFunc f vs).run P w=.ok (.value v) w'/\K (.returned v) w'
theorem CallsV.mono {f:FuncId}{vs:Array Value}{w:World}{K K':Ending->World->Prop}(h:CallsV P f vs w K)(hk:∀ e w',K e w'->K' e w'):CallsV P f vs w K':=by
 rcases h with ⟨h1,h2⟩|⟨v,w',h1,h2⟩
 ·exact .inl ⟨h1,h2.mono hk⟩
 ·exact .inr ⟨v,w',h1,hk _ _ h2⟩
theorem CallsV.calls {f:FuncId}{vs:Array Value}{w:World}{K:Ending->World->Prop}(h:CallsV P f vs w K)(hb:Vj7 P f):Calls P f vs w K:=by
 rcases h with ⟨_,h2⟩|⟨v,w',h1,h2⟩
 ·exact h2
 ·obtain ⟨fn,hfn,hname,hbody⟩:=hb
  simp only [callFunc,Sem.run_bind,run_program,Result.andThen_ok,hfn,hname,hbody,Bool.false_eq_true,if_false,Sem.run_pure] at h1
  injection h1 with h1 _
  cases h1
def Ctr (P:Program)(f:FuncId)(args:List AV)(mem:Ja1)(ret:AV)(mem':Ja1):Prop :=
 ∀ ρ w vs,RepM ρ mem w->All2 (VR ρ) args vs->CallsV P f vs.toArray w fun e w'=>∃ v ρ',e=.returned v/\VR ρ' ret v/\RepM ρ' mem' w'/\Step mem ρ w mem' ρ' w'
def putO (d:Option Tmp)(x:AV)(tm:Tm):Tm :=
 match d with
 | some d=>(d,x)::tm
 | none=>tm
def Jz6 (nt:Nat)(o:Oper):Bool :=
 match o.dst with
 | some d=>decide (d<nt)
 | none=>true
def Jh3 (ops:Array Oper)(o:Oper)(tm:Tm):Option Bool :=
 match o.guard with
 | none=>some true
 | some (j,want)=>match (ops[j]?).bind (·.dst) with
  | some t=>match Tm.get tm t with
   | .one (.bool b)=>some (b ==want)
   | .one .und=>some false
   | _=>none
  | none=>none
theorem Jp6 {ρ:Env}{nt:Nat}{tm:Tm}{mem:Ja1}{a:Act}{w:World}(hr:Rep ρ nt tm mem a w){ops:Array Oper}{o:Oper}{b:Bool}(h:Jh3 ops o tm=some b) :
  Region.wanted o (yielded ops a.tmps)=b:=by
 unfold Jh3 at h
 unfold Region.wanted
 cases hg:o.guard with
 | none=>rw [hg] at h;simp at h;simp [h]
 | some jw =>
  obtain ⟨j,want⟩:=jw
  rw [hg] at h
  simp only at h ⊢
  cases hd:(ops[j]?).bind (·.dst) with
  | none=>rw [hd] at h;cases h
  | some t =>
   rw [hd] at h
   simp only at h
   have hv:=hr.tm t
   split at h
   ·rename_i p hp
    rw [hp] at hv
    have e:a.tmps.getD t undef=.bool p:=hv
    injection h with h
    have e':a.tmps[t]?=some (.bool p):=by
     rw [Array.getD_eq_getD_getElem?] at e
     cases hq:a.tmps[t]? with
     | none=>rw [hq] at e;simp [undef] at e
     | some q=>rw [hq] at e;simpa using e
    subst h
    simp only [yielded,hd,Option.bind_some,e']
    cases p<;>cases want<;>rfl
   ·rename_i hp
    rw [hp] at hv
    have e:a.tmps.getD t undef=undef:=hv
    injection h with h
    subst h
    rw [Array.getD_eq_getD_getElem?] at e
    simp only [yielded,hd,Option.bind_some]
    cases hq:a.tmps[t]? with
    | none=>rfl
    | some q=>rw [hq] at e;simp at e;subst e;rfl
   ·cases h
def Ji9 (cs:List (Nat × Nat × Nat)):List AV:=cs.map fun c=>.one (.ptr c.1 c.2.1 c.2.2)
def AOps (P:Program)(ops:Array Oper):List Oper->Tm->Ja1->(Tm->Ja1->Prop)->Prop
 | [],tm,mem,K=>K tm mem
 | o::rest,tm,mem,K =>
  match Jh3 ops o tm with
  | some true =>
   match o.op with
   | .store t x y=>match Jx2 P t (opd tm x) (opd tm y) mem with
    | some mem'=>AOps P ops rest (putO o.dst (.one .und) tm) mem' K
    | none=>False
   | .call ⟨.value f,args,_⟩=>match opd tm f with
    | .one (.fn g cs)=>∃ ret mem',Ctr P g (args.toList.map (opd tm)++Ji9 cs) mem ret mem'/\AOps P ops rest (putO o.dst ret tm) mem' K
    | .one (.bm g cs)=>∃ ret mem',Ctr P g (.agg (cs.map SV.cv)::args.toList.map (opd tm)) mem ret mem'/\AOps P ops rest (putO o.dst ret tm) mem' K
    | _=>False
   | op=>match Ji0 P (opd tm) mem op with
    | some (x,mem')=>AOps P ops rest (putO o.dst x tm) mem' K
    | none=>False
  | some false=>AOps P ops rest (putO o.dst (.one .und) tm) mem K
  | none=>False
theorem Rep.putO {ρ:Env}{nt:Nat}{tm:Tm}{mem:Ja1}{a:Act}{w:World}(h:Rep ρ nt tm mem a w){o:Oper}(hd:Jz6 nt o=true){x:AV}{v:Value}(hv:VR ρ x v) :
  Rep ρ nt (Eng.putO o.dst x tm) mem (a.put o.dst v) w:=by
 unfold Eng.putO
 unfold Jz6 at hd
 cases e:o.dst with
 | none=>exact h
 | some d=>rw [e] at hd;exact h.put (by simpa using hd) hv
theorem Jy4 {ρ:Env}:∀ {cs:List (Nat × Nat × Nat)} {vs:List Value},All2 (CapR ρ) cs vs->All2 (VR ρ) (Ji9 cs) vs
 | [],[],_=>trivial
 | (r,v,o)::cs,x::vs,h=>⟨h.1,Jy4 h.2⟩
 | [],_::_,h=>h.elim
 | _::_,[],h=>h.elim
theorem Jm2 {nt:Nat}{ops:Array Oper}:∀ (l:List Oper) (tm:Tm) (mem:Ja1) (K:Tm->Ja1->Prop),l.all (Jz6 nt)=true->AOps P ops l tm mem K ->
  ∀ (ρ:Env) (a:Act) (w:World) (Q:Exit->Act->World->Prop),Rep ρ nt tm mem a w ->
   (∀ ρ' tm' mem' a' w',Rep ρ' nt tm' mem' a' w'->Step mem ρ w mem' ρ' w'->a'.defers=a.defers->K tm' mem'->Q .normal a' w')->wpList P ops Q l a w
 | [],tm,mem,K,_,h,ρ,a,w,Q,hr,hQ=>hQ ρ tm mem a w hr (Step.refl _ _ _) rfl h
 | o::rest,tm,mem,K,hd,h,ρ,a,w,Q,hr,hQ=>by
  simp only [List.all_cons,Bool.and_eq_true] at hd
  have hdef:∀ v,(a.put o.dst v).defers=a.defers:=fun v=>by cases o.dst<;>rfl
  simp only [AOps] at h
  unfold wpList
  split at h
  ·rename_i hw
   rw [if_pos (Jp6 hr hw)]
   refine .inl ?_
   unfold Oper.wp
   split at h
   ·rename_i t x y hop
    split at h
    ·rename_i mem' hs
     obtain ⟨w',hrun,hm,hst⟩:=Kr9 P hr.mem hs (hr.opd x) (hr.opd y)
     have he:(execOp a.eval o).run P w=.ok .skip w':=by rw [Qo5 hop];simp only [Sem.run_bind,hrun,Result.andThen_ok,Sem.run_pure]
     rw [he,Oper.upon_skip]
     refine Jm2 rest _ mem' K hd.2 h ρ _ w' Q ((hr.step hst hm).putO hd.1 (x:=.one .und) rfl) fun ρ' tm' mem'' a' w'' r s d k=>hQ ρ' tm' mem'' a' w'' r (hst.trans s) (d.trans (hdef _)) k
    ·exact h.elim
   ·rename_i f args ts hop
    split at h
    ·rename_i g cs hf
     obtain ⟨ret,mem',hg,h⟩:=h
     have hfv:=hr.opd f
     rw [hf] at hfv
     obtain ⟨vs,hfe,hcaps⟩:=hfv
     have hargs:All2 (VR ρ) (args.toList.map (opd tm)) (args.toList.map a.eval):=Js7 (fun y=>hr.opd y) args.toList
     have hc:=hg ρ w _ hr.mem (hargs.append (Jy4 hcaps))
     have hea:(args.toList.map a.eval++vs.toList).toArray=args.map a.eval++vs:=by
      apply Array.ext';simp
     rw [hea] at hc
     have he0:(execOp a.eval o).run P w=(callFunc g (args.map a.eval++vs)).run P w:=by
      rw [Kx2 hop]
      simp only [resolve,hfe,Deferred.ofValue,Sem.run_bind,Sem.run_pure,Result.andThen_ok,invoke,Array.empty_append]
     rcases hc with ⟨⟨fn,hfn,hname,hbody⟩,hc⟩|⟨v,w',hrun,v',ρ',he',hv,hm,hst⟩
     ·have he:(execOp a.eval o).run P w=.ok (.enter g (args.map a.eval++vs)) w:=by
       rw [he0]
       simp only [Sem.run_bind,Sem.run_pure,Result.andThen_ok,callFunc,run_program,hfn,hname,hbody,Bool.false_eq_true,if_false]
      rw [he,Oper.upon_enter]
      refine hc.mono fun e w' ⟨v,ρ',he',hv,hm,hst⟩=>?_
      subst he'
      exact Jm2 rest _ mem' K hd.2 h ρ' _ w' Q ((hr.step hst hm).putO hd.1 hv) fun ρ'' tm' mem'' a' w'' r s d k=>hQ ρ'' tm' mem'' a' w'' r (hst.trans s) (d.trans (hdef _)) k
     ·injection he' with he';subst he'
      rw [he0,hrun,Oper.upon_value]
      exact Jm2 rest _ mem' K hd.2 h ρ' _ w' Q ((hr.step hst hm).putO hd.1 hv) fun ρ'' tm' mem'' a' w'' r s d k=>hQ ρ'' tm' mem'' a' w'' r (hst.trans s) (d.trans (hdef _)) k
    ·rename_i g cs hf
     obtain ⟨ret,mem',hg,h⟩:=h
     have hfv:=hr.opd f
     rw [hf] at hfv
     obtain ⟨vs,hfe,hsv⟩:=hfv
     have hargs:All2 (VR ρ) (args.toList.map (opd tm)) (args.toList.map a.eval):=Js7 (fun y=>hr.opd y) args.toList
     have hc:=hg ρ w (.agg vs::args.toList.map a.eval) hr.mem ⟨⟨vs,rfl,Vi8 hsv⟩,hargs⟩
     have hea:(Value.agg vs::args.toList.map a.eval).toArray=#[Value.agg vs]++args.map a.eval:=by
      apply Array.ext';simp
     rw [hea] at hc
     have he0:(execOp a.eval o).run P w=(callFunc g (#[Value.agg vs]++args.map a.eval)).run P w:=by
      rw [Kx2 hop]
      simp only [resolve,hfe,Deferred.ofValue,Sem.run_bind,Sem.run_pure,Result.andThen_ok,invoke,Array.append_empty]
     rcases hc with ⟨⟨fn,hfn,hname,hbody⟩,hc⟩|⟨v,w',hrun,v',ρ',he',hv,hm,hst⟩
     ·have he:(execOp a.eval o).run P w=.ok (.enter g (#[Value.agg vs]++args.map a.eval)) w:=by
       rw [he0]
       simp only [Sem.run_bind,Sem.run_pure,Result.andThen_ok,callFunc,run_program,hfn,hname,hbody,Bool.false_eq_true,if_false]
      rw [he,Oper.upon_enter]
      refine hc.mono fun e w' ⟨v,ρ',he',hv,hm,hst⟩=>?_
      subst he'
      exact Jm2 rest _ mem' K hd.2 h ρ' _ w' Q ((hr.step hst hm).putO hd.1 hv) fun ρ'' tm' mem'' a' w'' r s d k=>hQ ρ'' tm' mem'' a' w'' r (hst.trans s) (d.trans (hdef _)) k
     ·injection he' with he';subst he'
      rw [he0,hrun,Oper.upon_value]
      exact Jm2 rest _ mem' K hd.2 h ρ' _ w' Q ((hr.step hst hm).putO hd.1 hv) fun ρ'' tm' mem'' a' w'' r s d k=>hQ ρ'' tm' mem'' a' w'' r (hst.trans s) (d.trans (hdef _)) k
    ·exact h.elim
   ·split at h
    ·rename_i x mem' hv
     obtain ⟨v,w',ρ',hrun,hvr,hm,hst⟩:=Ko6 hr hv
     have hup:∀ K',Oper.upon P o a K' Q ((execOp a.eval o).run P w)=K' (a.put o.dst v) w':=fun K'=>by
      rcases hrun with hrun|⟨hrun,rfl⟩
      ·rw [hrun,Oper.upon_value]
      ·rw [hrun,Oper.upon_skip]
     rw [hup]
     exact Jm2 rest _ mem' K hd.2 h ρ' _ w' Q ((hr.step hst hm).putO hd.1 hvr) fun ρ'' tm' mem'' a' w'' r s d k=>hQ ρ'' tm' mem'' a' w'' r (hst.trans s) (d.trans (hdef _)) k
    ·exact h.elim
  ·rename_i hw
   rw [if_neg (by rw [Jp6 hr hw];simp)]
   exact Jm2 rest _ mem K hd.2 h ρ _ w Q (hr.putO hd.1 (x:=.one .und) rfl) fun ρ'' tm' mem'' a' w'' r s d k=>hQ ρ'' tm' mem'' a' w'' r s (d.trans (hdef _)) k
  ·exact h.elim
def AW (P:Program)(nt:Nat)(c:Code)(tm:Tm)(mem:Ja1)(Q:Exit->Tm->Ja1->Prop):Prop :=
 ∀ ρ a w,Rep ρ nt tm mem a w->c.wp P (fun ex a' w'=>∃ ρ' tm' mem',Rep ρ' nt tm' mem' a' w'/\Step mem ρ w mem' ρ' w'/\a'.defers=a.defers/\Q ex tm' mem') a w
def Thn (K:Tm->Ja1->Prop)(Q:Exit->Tm->Ja1->Prop):Exit->Tm->Ja1->Prop
 | .normal,tm,mem=>K tm mem
 | e,tm,mem=>Q e tm mem
def InB (id:Nat)(Q:Exit->Tm->Ja1->Prop):Exit->Tm->Ja1->Prop
 | .exit id',tm,mem=>if id'=id then Q .normal tm mem else Q (.exit id') tm mem
 | e,tm,mem=>Q e tm mem
variable {nt:Nat}{tm:Tm}{mem:Ja1}{Q:Exit->Tm->Ja1->Prop}
theorem AW.seq {x y:Code}(h:AW P nt x tm mem (Thn (fun tm' mem'=>AW P nt y tm' mem' Q) Q)):AW P nt (.seq x y) tm mem Q:=by
 intro ρ a w hr
 refine wp_seq (wp_mono (h ρ a w hr) ?_)
 rintro e a' w' ⟨ρ',tm',mem',hr',hs,hd,hq⟩
 cases e with
 | normal =>
  refine wp_mono (hq ρ' a' w' hr') ?_
  rintro e a'' w'' ⟨ρ'',tm'',mem'',hr'',hs',hd',hq'⟩
  exact ⟨ρ'',tm'',mem'',hr'',hs.trans hs',hd'.trans hd,hq'⟩
 | _=>exact ⟨ρ',tm',mem',hr',hs,hd,hq⟩
theorem AW.z (h:Q .normal tm mem):AW P nt .skip tm mem Q:=fun ρ a w hr=>wp_skip ⟨ρ,tm,mem,hr,Step.refl _ _ _,rfl,h⟩
theorem AW.ret (h:Q .ret tm mem):AW P nt .ret tm mem Q:=fun ρ a w hr=>wp_ret ⟨ρ,tm,mem,hr,Step.refl _ _ _,rfl,h⟩
theorem AW.v {id:Nat}(h:Q (.exit id) tm mem):AW P nt (.exit id) tm mem Q:=fun ρ a w hr=>wp_exit ⟨ρ,tm,mem,hr,Step.refl _ _ _,rfl,h⟩
theorem AW.b {id:Nat}{c:Code}(h:AW P nt c tm mem (InB id Q)):AW P nt (.block id c) tm mem Q:=by
 intro ρ a w hr
 refine wp_block (wp_mono (h ρ a w hr) ?_)
 rintro e a' w' ⟨ρ',tm',mem',hr',hs,hd,hq⟩
 cases e with
 | exit id' =>
  simp only [Exit.inBlock]
  simp only [InB] at hq
  split
  ·rename_i he;rw [if_pos he] at hq;exact ⟨ρ',tm',mem',hr',hs,hd,hq⟩
  ·rename_i he;rw [if_neg he] at hq;exact ⟨ρ',tm',mem',hr',hs,hd,hq⟩
 | _=>exact ⟨ρ',tm',mem',hr',hs,hd,hq⟩
theorem AW.cond {c:Operand}{x y:Code}{b:Bool}(hc:opd tm c=.one (.bool b))(ht:b=true->AW P nt x tm mem Q)(hf:b=false->AW P nt y tm mem Q):AW P nt (.cond c x y) tm mem Q:=by
 intro ρ a w hr
 have hv:=hr.opd c
 rw [hc] at hv
 have e:a.eval c=.bool b:=hv
 exact wp_cond_split e (fun h=>ht h ρ a w hr) (fun h=>hf h ρ a w hr)
theorem AW.region {id:Nat}{l:List Oper}(hd:l.all (Jz6 nt)=true)(h:AOps P l.toArray l tm mem (Q .normal)):AW P nt (.region id l.toArray false) tm mem Q:=by
 intro ρ a w hr
 refine wp_region_lit ?_
 exact Jm2 l tm mem _ hd h ρ a w _ hr fun ρ' tm' mem' a' w' r s d k=>⟨ρ',tm',mem',r,s,d,k⟩
theorem AW.mono {c:Code}{Q':Exit->Tm->Ja1->Prop}(h:AW P nt c tm mem Q)(hq:∀ e tm mem,Q e tm mem->Q' e tm mem):AW P nt c tm mem Q':=fun ρ a w hr =>
 wp_mono (h ρ a w hr) fun e a' w' ⟨ρ',tm',mem',hr',hs,hd,hq'⟩=>⟨ρ',tm',mem',hr',hs,hd,hq _ _ _ hq'⟩
def Weak (nt:Nat)(tm:Tm)(mem:Ja1)(tm':Tm)(mem':Ja1):Prop :=
 ∀ ρ a w,Rep ρ nt tm mem a w->∃ ρ',Rep ρ' nt tm' mem' a w/\∀ m0 ρ0 w0,m0.length<=mem'.length->Step m0 ρ0 w0 mem ρ w->Step m0 ρ0 w0 mem' ρ' w
theorem AW.loop {ι:Type}{c:Code}(T:ι->Tm)(M:ι->Ja1)(μ:ι->Nat)(i:ι)(ht:T i=tm)(hm:M i=mem)
  (h:∀ i,AW P nt c (T i) (M i) (Thn (fun tm' mem'=>∃ j,μ j < μ i/\Weak nt tm' mem' (T j) (M j)/\(M i).length<=(M j).length) Q)):AW P nt (.loop c) tm mem Q:=by
 subst ht;subst hm
 intro ρ a w hr
 refine wp_loop_rounds (μ i+1) ?_
 have key:∀ n i,μ i<=n->∀ ρ a w,Rep ρ nt (T i) (M i) a w ->
   Code.rounds P c (fun ex a' w'=>∃ ρ' tm' mem',Rep ρ' nt tm' mem' a' w'/\Step (M i) ρ w mem' ρ' w'/\a'.defers=a.defers/\Q ex tm' mem') (n+1) a w:=by
  intro n
  induction n with
  | zero =>
   intro i hn ρ a w hr
   refine wp_mono (h i ρ a w hr) ?_
   rintro e a' w' ⟨ρ',tm',mem',hr',hs,hd,hq⟩
   cases e with
   | normal=>obtain ⟨j,hj,_⟩:=hq;omega
   | _=>exact ⟨ρ',tm',mem',hr',hs,hd,hq⟩
  | succ n ih =>
   intro i hn ρ a w hr
   refine wp_mono (h i ρ a w hr) ?_
   rintro e a' w' ⟨ρ',tm',mem',hr',hs,hd,hq⟩
   cases e with
   | normal =>
    obtain ⟨j,hj,hweak,hlen⟩:=hq
    obtain ⟨ρ2,hr2,hs2⟩:=hweak ρ' a' w' hr'
    have hs3:=hs2 _ _ _ hlen hs
    have:=ih j (by omega) ρ2 a' w' hr2
    have mono:∀ (n:Nat) (Q1 Q2:Exit->Act->World->Prop),(∀ e a w,Q1 e a w->Q2 e a w)->∀ a w,Code.rounds P c Q1 n a w->Code.rounds P c Q2 n a w:=by
     intro n Q1 Q2 hQ
     induction n with
     | zero=>intro a w h;exact h
     | succ n ihn =>
      intro a w h
      refine wp_mono h ?_
      intro e a w h
      cases e with
      | normal=>exact ihn a w h
      | _=>exact hQ _ _ _ h
    refine mono _ _ _ ?_ a' w' this
    rintro e a'' w'' ⟨ρ'',tm'',mem'',hr'',hs',hd',hq'⟩
    exact ⟨ρ'',tm'',mem'',hr'',hs3.trans hs',hd'.trans hd,hq'⟩
   | _=>exact ⟨ρ',tm',mem',hr',hs,hd,hq⟩
 exact key (μ i) i (Nat.le_refl _) ρ a w hr
end
def SV.below (L:Nat):SV->Bool
 | .sl r _ _ _=>decide (r<L)
 | _=>true
def CV.below (L:Nat):CV->Bool
 | .ptr r _ _=>decide (r<L)
 | .sl r _ _ _=>decide (r<L)
 | .view r _ _ _=>decide (r<L)
 | .fn _ cs=>cs.all fun c=>decide (c.1<L)
 | .mp r _=>decide (r<L)
 | .bm _ cs=>cs.all (SV.below L)
 | _=>true
def AV.below (L:Nat):AV->Bool
 | .one c=>c.below L
 | .agg cs=>cs.all (CV.below L)
 | .tup ts=>ts.all fun t=>t.2.all (CV.below L)
def BK.below (L:Nat):BK->Bool
 | .map _ _ _ es=>es.all fun e=>e.2.1.all (CV.below L)&&e.2.2.all (CV.below L)
 | .iter rm _ _ _=>decide (rm<L)
 | _=>true
def Blk.below (L:Nat)(b:Blk):Bool:=b.kind.below L&&b.cells.all (CV.below L)
theorem Blk.below_cells {L:Nat}{b:Blk}(h:b.below L=true):b.cells.all (CV.below L)=true:=by
 simp only [Blk.below,Bool.and_eq_true] at h;exact h.2
theorem Blk.below_kind {L:Nat}{b:Blk}(h:b.below L=true):b.kind.below L=true:=by
 simp only [Blk.below,Bool.and_eq_true] at h;exact h.1
def MWf (L:Nat)(m:Ja1):Prop:=∀ b,b ∈ m->b.below L=true
def Env.upto (L:Nat)(ρ:Env):Env:=fun r v=>if r<L then ρ r v else none
theorem SVR.to {ρ ρ':Env}{L:Nat}(hu:∀ r v x,r<L->ρ r v=some x->ρ' r v=some x):∀ {cs:List SV} {vs:List Value},All2 (SVR ρ) cs vs->cs.all (SV.below L)=true->All2 (SVR ρ') cs vs
 | [],[],_,_=>trivial
 | s::cs,v::vs,h,hb=>by
  simp only [List.all_cons,Bool.and_eq_true] at hb
  refine ⟨?_,SVR.to hu h.2 hb.2⟩
  have h1:=h.1
  cases s with
  | int k n=>exact h1
  | nils=>exact h1
  | sl r ver off n =>
   obtain ⟨A,c0,B,c,h1,h2⟩:=h1
   exact ⟨A,c0,B,c,hu _ _ _ (by simpa [SV.below] using hb.1) h1,h2⟩
 | [],_::_,h,_=>h.elim
 | _::_,[],h,_=>h.elim
theorem SVR.below_of {ρ:Env}{L:Nat}(hd:∀ r v,L<=r->ρ r v=none):∀ {cs:List SV} {vs:List Value},All2 (SVR ρ) cs vs->cs.all (SV.below L)=true
 | [],[],_=>rfl
 | s::cs,v::vs,h=>by
  simp only [List.all_cons,Bool.and_eq_true]
  refine ⟨?_,SVR.below_of hd h.2⟩
  have h1:=h.1
  cases s with
  | int k n=>rfl
  | nils=>rfl
  | sl r ver off n =>
   obtain ⟨A,c0,B,c,h1,h2⟩:=h1
   simp only [SV.below,decide_eq_true_eq]
   rcases Nat.lt_or_ge r L with h|h
   ·exact h
   ·rw [hd r _ h] at h1;cases h1
 | [],_::_,h=>h.elim
 | _::_,[],h=>h.elim
theorem VC.upto {ρ:Env}{L:Nat}:∀ {c:CV} {v:Value},VC ρ c v->c.below L=true->VC (ρ.upto L) c v
 | .bool _,_,hv,_=>hv
 | .int _ _,_,hv,_=>hv
 | .str _,_,hv,_=>hv
 | .ptr r _ _,_,⟨a,k,h1,h2⟩,hb=>⟨a,k,by simp [CV.below] at hb;simpa [Env.upto,hb] using h1,h2⟩
 | .nilp,_,hv,_=>hv
 | .sl r _ _ _,_,⟨A,c0,B,c,h1,h2⟩,hb=>⟨A,c0,B,c,by simp [CV.below] at hb;simpa [Env.upto,hb] using h1,h2⟩
 | .view r _ _ _,_,⟨A,c0,B,c,h1,h2⟩,hb=>⟨A,c0,B,c,by simp [CV.below] at hb;simpa [Env.upto,hb] using h1,h2⟩
 | .nils,_,hv,_=>hv
 | .fn _ cs,_,⟨vs,h1,h2⟩,hb=>⟨vs,h1,by
   simp only [CV.below] at hb
   generalize hl:vs.toList=l at h2
   clear h1 hl
   induction cs generalizing l with
   | nil=>cases l with
    | nil=>trivial
    | cons=>exact h2.elim
   | cons c cs ih =>
    cases l with
    | nil=>exact h2.elim
    | cons x l =>
     simp only [List.all_cons,Bool.and_eq_true,decide_eq_true_eq] at hb
     obtain ⟨a,k,h3,h4⟩:=h2.1
     exact ⟨⟨a,k,by simpa [Env.upto,hb.1] using h3,h4⟩,ih hb.2 l h2.2⟩⟩
 | .nilf,_,hv,_=>hv
 | .nili,_,hv,_=>hv
 | .und,_,hv,_=>hv
 | .junk,_,_,_=>trivial
 | .mp r _,_,⟨n,k,h1,h2⟩,hb=>⟨n,k,by simp [CV.below] at hb;simpa [Env.upto,hb] using h1,h2⟩
 | .nilm,_,hv,_=>hv
 | .gp _ _,_,hv,_=>hv
 | .ifj _,_,hv,_=>hv
 | .bm _ cs,_,⟨vs,h1,h2⟩,hb=>⟨vs,h1,SVR.to (fun r v x hr hx=>by simpa [Env.upto,hr] using hx) h2 hb⟩
theorem All2.upto {ρ:Env}{L:Nat}:∀ {cs:List CV} {vs:List Value},All2 (VC ρ) cs vs->cs.all (CV.below L)=true->All2 (VC (ρ.upto L)) cs vs
 | [],[],_,_=>trivial
 | c::cs,v::vs,h,hb=>by
  simp only [List.all_cons,Bool.and_eq_true] at hb
  exact ⟨h.1.upto hb.1,All2.upto h.2 hb.2⟩
 | [],_::_,h,_=>h.elim
 | _::_,[],h,_=>h.elim
theorem VR.upto {ρ:Env}{L:Nat}{x:AV}{v:Value}(h:VR ρ x v)(hb:x.below L=true):VR (ρ.upto L) x v:=by
 cases x with
 | one c=>exact VC.upto h hb
 | agg cs=>obtain ⟨vs,h1,h2⟩:=h;exact ⟨vs,h1,h2.upto hb⟩
 | tup ts =>
  obtain ⟨vs,h1,h2⟩:=h
  refine ⟨vs,h1,?_⟩
  simp only [AV.below] at hb
  generalize hl:vs.toList=l at h2
  clear h1 hl
  induction ts generalizing l with
  | nil=>cases l with
   | nil=>trivial
   | cons=>exact h2.elim
  | cons t ts ih =>
   cases l with
   | nil=>exact h2.elim
   | cons x l =>
    simp only [List.all_cons,Bool.and_eq_true] at hb
    refine ⟨?_,ih hb.2 l h2.2⟩
    obtain ⟨b,cs⟩:=t
    have h3:=h2.1
    cases b with
    | true=>obtain ⟨us,h4,h5⟩:=h3;exact ⟨us,h4,h5.upto hb.1⟩
    | false =>
     match cs,h3,hb.1 with
     | [],_,_=>trivial
     | [c],h3,hb=>exact VC.upto h3 (by simpa using hb)
     | _::_::_,_,_=>trivial
theorem VC.below_of {ρ:Env}{L:Nat}(hd:∀ r v,L<=r->ρ r v=none):∀ {c:CV} {v:Value},VC ρ c v->c.below L=true
 | .bool _,_,_=>rfl
 | .int _ _,_,_=>rfl
 | .str _,_,_=>rfl
 | .ptr r _ _,_,⟨a,k,h1,h2⟩=>by
  simp only [CV.below,decide_eq_true_eq]
  rcases Nat.lt_or_ge r L with h|h
  ·exact h
  ·rw [hd r _ h] at h1;cases h1
 | .nilp,_,_=>rfl
 | .sl r _ _ _,_,⟨A,c0,B,c,h1,h2⟩=>by
  simp only [CV.below,decide_eq_true_eq]
  rcases Nat.lt_or_ge r L with h|h
  ·exact h
  ·rw [hd r _ h] at h1;cases h1
 | .view r _ _ _,_,⟨A,c0,B,c,h1,h2⟩=>by
  simp only [CV.below,decide_eq_true_eq]
  rcases Nat.lt_or_ge r L with h|h
  ·exact h
  ·rw [hd r _ h] at h1;cases h1
 | .nils,_,_=>rfl
 | .fn _ cs,_,⟨vs,h1,h2⟩=>by
  simp only [CV.below]
  generalize hl:vs.toList=l at h2
  clear h1 hl
  induction cs generalizing l with
  | nil=>rfl
  | cons c cs ih =>
   cases l with
   | nil=>exact h2.elim
   | cons x l =>
    simp only [List.all_cons,Bool.and_eq_true,decide_eq_true_eq]
    refine ⟨?_,ih l h2.2⟩
    obtain ⟨a,k,h3,_⟩:=h2.1
    rcases Nat.lt_or_ge c.1 L with h|h
    ·exact h
    ·rw [hd _ _ h] at h3;cases h3
 | .nilf,_,_=>rfl
 | .nili,_,_=>rfl
 | .und,_,_=>rfl
 | .junk,_,_=>rfl
 | .mp r _,_,⟨n,k,h1,h2⟩=>by
  simp only [CV.below,decide_eq_true_eq]
  rcases Nat.lt_or_ge r L with h|h
  ·exact h
  ·rw [hd r _ h] at h1;cases h1
 | .nilm,_,_=>rfl
 | .gp _ _,_,_=>rfl
 | .ifj _,_,_=>rfl
 | .bm _ _,_,⟨vs,h1,h2⟩=>SVR.below_of hd h2
theorem All2.below_of {ρ:Env}{L:Nat}(hd:∀ r v,L<=r->ρ r v=none):∀ {cs:List CV} {vs:List Value},All2 (VC ρ) cs vs->cs.all (CV.below L)=true
 | [],[],_=>rfl
 | c::cs,v::vs,h=>by
  simp only [List.all_cons,Bool.and_eq_true]
  exact ⟨h.1.below_of hd,All2.below_of hd h.2⟩
 | [],_::_,h=>h.elim
 | _::_,[],h=>h.elim
theorem TV.upto {ρ:Env}{L:Nat}{b:Bool}{cs:List CV}{v:Value}(h:TV ρ (b,cs) v)(hb:cs.all (CV.below L)=true):TV (ρ.upto L) (b,cs) v:=by
 cases b with
 | true=>obtain ⟨vs,h1,h2⟩:=h;exact ⟨vs,h1,h2.upto hb⟩
 | false =>
  match cs,h with
  | [],_=>trivial
  | [c],h=>simp only [List.all_cons,List.all_nil,Bool.and_true] at hb;exact VC.upto h hb
  | _::_::_,_=>trivial
theorem TV.below_of {ρ:Env}{L:Nat}(hd:∀ r v,L<=r->ρ r v=none){b:Bool}{cs:List CV}{v:Value}(h:TV ρ (b,cs) v)(hl:(b || cs.length ==1)=true):cs.all (CV.below L)=true:=by
 cases b with
 | true=>obtain ⟨vs,h1,h2⟩:=h;exact h2.below_of hd
 | false =>
  match cs,h,hl with
  | [c],h,_=>simp only [List.all_cons,List.all_nil,Bool.and_true];exact VC.below_of hd h
  | [],_,hl=>simp at hl
  | _::_::_,_,hl=>simp at hl
theorem RepM.wf {ρ:Env}{mem:Ja1}{w:World}(h:RepM ρ mem w):MWf mem.length mem:=fun b hb=>by
 obtain ⟨r,hr⟩:=List.getElem?_of_mem hb
 have hbk:=h.blk r b hr
 obtain ⟨kind,ty,ver,esz,cells⟩:=b
 cases kind with
 | fix=>obtain ⟨n,c,k,h1,h2,h3,_⟩:=hbk;exact h3.below_of h.dom
 | grow =>
  rcases hbk with ⟨h1,h2⟩|⟨n,c,cap,xs,sp,h1,h2,h3,hcm,h4,h5⟩
  ·simp only at h1;subst h1;rfl
  ·exact h5.below_of h.dom
 | ro =>
  obtain ⟨A,k,h1,h2⟩:=hbk
  simp only [Blk.below,BK.below,Bool.true_and]
  rw [List.all_eq_true]
  intro c hc
  obtain ⟨a,ha,hlt,_,hcs⟩:=h2 (by rintro rfl;cases hc)
  obtain ⟨i,hi⟩:=List.getElem?_of_mem hc
  obtain ⟨v,hv,hr⟩:=hcs i c hi
  exact hr.below_of h.dom
 | map ka va clock es =>
  obtain ⟨n,o,k,h1,h2,h3,h4⟩:=hbk
  simp only at h4
  subst h4
  simp only [Blk.below,BK.below,List.all_nil,Bool.and_true,List.all_eq_true,Bool.and_eq_true]
  intro e he
  obtain ⟨i,hi⟩:=List.getElem?_of_mem he
  obtain ⟨x,hx,_,g2,g3,g4,g5⟩:=h3.get hi
  exact ⟨List.all_eq_true.1 (g2.below_of h.dom g4),List.all_eq_true.1 (g3.below_of h.dom g5)⟩
 | iter rm since seen last =>
  obtain ⟨n,N,k,k',h1,h2,h3,h4⟩:=hbk
  simp only at h4
  subst h4
  simp only [Blk.below,BK.below,List.all_nil,Bool.and_true,decide_eq_true_eq]
  rcases Nat.lt_or_ge rm mem.length with hl|hl
  ·exact hl
  ·rw [h.dom _ _ hl] at h2;cases h2
theorem BlkR.upto {ρ:Env}{L:Nat}{w:World}{r:Nat}{b:Blk}(hb:BlkR ρ w r b)(hr:r<L)(hwf:b.below L=true):BlkR (ρ.upto L) w r b:=by
 have hu:∀ v,ρ.upto L r v=ρ r v:=fun v=>by simp [Env.upto,hr]
 obtain ⟨kind,ty,ver,esz,cells⟩:=b
 have hwk:=Blk.below_kind hwf
 replace hwf:=Blk.below_cells hwf
 simp only at hwf
 cases kind with
 | fix=>obtain ⟨n,c,k,h1,h2,h3,hk⟩:=hb;exact ⟨n,c,k,by rw [hu];exact h1,h2,h3.upto hwf,hk⟩
 | grow =>
  rcases hb with ⟨h1,h2⟩|⟨n,c,cap,xs,sp,h1,h2,h3,hcm,h4,h5⟩
  ·exact .inl ⟨h1,by rw [hu];exact h2⟩
  ·exact .inr ⟨n,c,cap,xs,sp,by rw [hu];exact h1,h2,h3,hcm,h4,h5.upto hwf⟩
 | ro =>
  obtain ⟨A,k,h1,h2⟩:=hb
  refine ⟨A,k,by rw [hu];exact h1,fun hne=>?_⟩
  obtain ⟨a,ha,hlt,hgl,hc⟩:=h2 hne
  exact ⟨a,ha,hlt,hgl,fun i c hi=>by
   obtain ⟨v,hv,hr⟩:=hc i c hi
   exact ⟨v,hv,hr.upto (List.all_eq_true.1 hwf c (List.mem_of_getElem? hi))⟩⟩
 | map ka va clock es =>
  obtain ⟨n,o,k,h1,h2,h3,h4⟩:=hb
  refine ⟨n,o,k,by rw [hu];exact h1,h2,?_,h4⟩
  simp only [BK.below,List.all_eq_true,Bool.and_eq_true] at hwk
  refine All2.of_get h3.length fun i e x he hx=>?_
  obtain ⟨x',hx',g1,g2,g3,g4⟩:=h3.get he
  rw [hx] at hx';injection hx' with hx';subst hx'
  have:=hwk e (List.mem_of_getElem? he)
  exact ⟨g1,g2.upto (List.all_eq_true.2 this.1),g3.upto (List.all_eq_true.2 this.2),g4⟩
 | iter rm since seen last =>
  obtain ⟨n,N,k,k',h1,h2,h3,h4⟩:=hb
  simp only [BK.below,decide_eq_true_eq] at hwk
  exact ⟨n,N,k,k',by rw [hu];exact h1,by simpa [Env.upto,hwk] using h2,h3,h4⟩
section
variable {P:Program}{nt:Nat}{tm tm':Tm}{mem mem':Ja1}{Q:Exit->Tm->Ja1->Prop}
theorem Weak.trans {tm'':Tm}{mem'':Ja1}(h:Weak nt tm mem tm' mem')(g:Weak nt tm' mem' tm'' mem'')(hl:mem''.length<=mem'.length):Weak nt tm mem tm'' mem'':=fun ρ a w hr=>by
 obtain ⟨ρ1,hr1,hs1⟩:=h ρ a w hr
 obtain ⟨ρ2,hr2,hs2⟩:=g ρ1 a w hr1
 exact ⟨ρ2,hr2,fun m0 ρ0 w0 hl0 hs=>hs2 m0 ρ0 w0 hl0 (hs1 m0 ρ0 w0 (Nat.le_trans hl0 hl) hs)⟩
def Keeps (tm:Tm):List (Nat × AV)->Prop
 | []=>True
 | (j,v)::r=>Tm.get tm j=v/\Keeps tm r
theorem Keeps.get {tm:Tm}:∀ {tm':List (Nat × AV)},Keeps tm tm'->∀ i,Tm.get tm' i=Tm.get tm i\/Tm.get tm' i=.one .junk
 | [],_,i=>.inr rfl
 | (j,v)::r,h,i=>by
  by_cases hi:i=j
  ·subst hi;simp [Tm.get,h.1]
  ·simp only [Tm.get,if_neg hi];exact Keeps.get h.2 i
theorem Weak.keep (h:Keeps tm tm'):Weak nt tm mem tm' mem:=fun ρ a w hr =>
 ⟨ρ,⟨hr.size,fun i=>by
  rcases h.get i with e|e
  ·rw [e];exact hr.tm i
  ·rw [e];trivial,hr.mem⟩,fun _ _ _ _ s=>s⟩
def TmBelow (L:Nat)(tm:Tm):Prop:=∀ p,p ∈ tm->p.2.below L=true
theorem TmBelow.get {L:Nat}:∀ {tm:List (Nat × AV)},TmBelow L tm->∀ i,(Tm.get tm i).below L=true
 | [],_,i=>rfl
 | (j,v)::r,h,i=>by
  by_cases hi:i=j
  ·subst hi;simp only [Tm.get,if_true];exact h _ List.mem_cons_self
  ·simp only [Tm.get,if_neg hi];exact TmBelow.get (fun p hp=>h p (List.mem_cons_of_mem _ hp)) i
theorem Weak.trunc {m1 extra:Ja1}(he:mem=m1++extra)(ht:TmBelow m1.length tm)(hw:MWf m1.length m1):Weak nt tm mem tm m1:=by
 subst he
 intro ρ a w hr
 have hget:∀ {r:Nat} {b:Blk},m1[r]?=some b->r<m1.length/\(m1++extra)[r]?=some b:=fun {r b} hb=>by
  have hl:=(List.getElem?_eq_some_iff.1 hb).1
  exact ⟨hl,by rw [List.getElem?_append_left hl];exact hb⟩
 have hu:∀ {r:Nat} (v:Nat),r<m1.length->ρ.upto m1.length r v=ρ r v:=fun {r} v h=>by simp [Env.upto,h]
 refine ⟨ρ.upto m1.length,⟨hr.size,fun i=>(hr.tm i).upto (ht.get i),⟨?_,?_,?_,?_⟩⟩,?_⟩
 ·intro r b hb
  obtain ⟨h1,h2⟩:=hget hb
  exact (hr.mem.blk r b h2).upto h1 (hw b (List.mem_of_getElem? hb))
 ·intro r v h;simp only [Env.upto];rw [if_neg (by omega)]
 ·intro r b v hb hv
  obtain ⟨h1,h2⟩:=hget hb
  rw [hu v h1];exact hr.mem.domv r b v h2 hv
 ·intro r s b c hb hc hrs hk hne x y k l hx hy
  obtain ⟨h1,h2⟩:=hget hb
  obtain ⟨h3,h4⟩:=hget hc
  rw [hu _ h1] at hx;rw [hu _ h3] at hy
  exact hr.mem.sep r s b c h2 h4 hrs hk hne x y k l hx hy
 ·intro m0 ρ0 w0 hl hs
  refine ⟨hs.os,hs.tape,hs.output,hs.size,hl,fun r h v x hx=>?_,?_,fun r b hb hro=>hs.ro r b (hget hb).2 hro,hs.frame,?_⟩
  ·rw [hu v (by omega)];exact hs.ext r h v x hx
  ·intro r b b' hb hb'
   exact hs.kind r b b' hb (hget hb').2
  ·intro r b x k hb hk hx
   obtain ⟨h1,h2⟩:=hget hb
   rw [hu _ h1] at hx
   exact hs.fresh r b x k h2 hk hx
def Jh0 (r ver:Nat):List (Nat × Nat)->Option Nat
 | []=>none
 | (k,v)::ks=>if r=k/\ver=v then some 0 else (Jh0 r ver ks).map (· + 1)
theorem Ks3 {r ver:Nat}:∀ {ks:List (Nat × Nat)} {i:Nat},Jh0 r ver ks=some i->ks[i]?=some (r,ver)
 | [],i,h=>by simp [Jh0] at h
 | (k,v)::ks,i,h=>by
  simp only [Jh0] at h
  split at h
  ·rename_i hc;injection h with h;subst h;simp [hc.1,hc.2]
  ·simp only [Option.map_eq_some_iff] at h
   obtain ⟨j,hj,rfl⟩:=h
   simpa using Ks3 hj
def Jt4 (L:Nat)(ks:List (Nat × Nat)):CV->Option CV
 | .ptr r ver off=>if r<L then some (.ptr r ver off) else (Jh0 r ver ks).map fun i=>.ptr (L+i) 0 off
 | .sl r ver off n=>if r<L then some (.sl r ver off n) else (Jh0 r ver ks).map fun i=>.sl (L+i) 0 off n
 | .view r ver off n=>if r<L then some (.view r ver off n) else (Jh0 r ver ks).map fun i=>.view (L+i) 0 off n
 | .fn f cs=>if (cs.all fun c=>decide (c.1<L))=true then some (.fn f cs) else none
 | .mp r ver=>if r<L then some (.mp r ver) else (Jh0 r ver ks).map fun i=>.mp (L+i) 0
 | .bm f cs=>if cs.all (SV.below L)=true then some (.bm f cs) else none
 | c=>some c
def Ka4 (L:Nat)(ks:List (Nat × Nat)):List CV->Option (List CV)
 | []=>some []
 | c::cs=>match Jt4 L ks c,Ka4 L ks cs with
  | some c',some cs'=>some (c'::cs')
  | _,_=>none
def Km1 (L:Nat)(ks:List (Nat × Nat)):List (Bool × List CV)->Option (List (Bool × List CV))
 | []=>some []
 | (b,cs)::ts=>match Ka4 L ks cs,Km1 L ks ts with
  | some cs',some ts'=>some ((b,cs')::ts')
  | _,_=>none
def Kg3 (L:Nat)(ks:List (Nat × Nat)):AV->Option AV
 | .one c=>(Jt4 L ks c).map .one
 | .agg cs=>(Ka4 L ks cs).map .agg
 | .tup ts=>(Km1 L ks ts).map .tup
def Env.pick (L:Nat)(ks:List (Nat × Nat))(ρ:Env):Env:=fun r v=>if r<L then ρ r v else if v=0 then (ks[r - L]?).bind fun k=>ρ k.1 k.2 else none
theorem VC.pick {ρ:Env}{L:Nat}{ks:List (Nat × Nat)}{c c':CV}{v:Value}(h:VC ρ c v)(hc:Jt4 L ks c=some c'):VC (ρ.pick L ks) c' v:=by
 have hup:∀ {r ver:Nat} {x:Option Addr × Nat},ρ r ver=some x->r<L->ρ.pick L ks r ver=some x:=fun {r ver x} h hr=>by simp [Env.pick,hr,h]
 have hix:∀ {r ver i:Nat} {x:Option Addr × Nat},ρ r ver=some x->Jh0 r ver ks=some i->ρ.pick L ks (L+i) 0=some x:=fun {r ver i x} h hr=>by
  have hn:¬(L+i<L):=by omega
  simp [Env.pick,Ks3 hr,h,hn]
 cases c with
 | ptr r ver off =>
  obtain ⟨a,k,h1,h2⟩:=h
  simp only [Jt4] at hc
  split at hc
  ·rename_i hr;injection hc with hc;subst hc;exact ⟨a,k,hup h1 hr,h2⟩
  ·simp only [Option.map_eq_some_iff] at hc
   obtain ⟨i,hi,rfl⟩:=hc
   exact ⟨a,k,hix h1 hi,h2⟩
 | sl r ver off n =>
  obtain ⟨A,c0,B,c,h1,h2⟩:=h
  simp only [Jt4] at hc
  split at hc
  ·rename_i hr;injection hc with hc;subst hc;exact ⟨A,c0,B,c,hup h1 hr,h2⟩
  ·simp only [Option.map_eq_some_iff] at hc
   obtain ⟨i,hi,rfl⟩:=hc
   exact ⟨A,c0,B,c,hix h1 hi,h2⟩
 | view r ver off n =>
  obtain ⟨A,c0,B,c,h1,h2⟩:=h
  simp only [Jt4] at hc
  split at hc
  ·rename_i hr;injection hc with hc;subst hc;exact ⟨A,c0,B,c,hup h1 hr,h2⟩
  ·simp only [Option.map_eq_some_iff] at hc
   obtain ⟨i,hi,rfl⟩:=hc
   exact ⟨A,c0,B,c,hix h1 hi,h2⟩
 | fn f cs =>
  simp only [Jt4] at hc
  split at hc
  ·rename_i hb
   injection hc with hc;subst hc
   obtain ⟨vs,h1,h2⟩:=h
   refine ⟨vs,h1,?_⟩
   generalize hl:vs.toList=l at h2
   clear h1 hl
   induction cs generalizing l with
   | nil=>cases l with
    | nil=>trivial
    | cons=>exact h2.elim
   | cons c cs ih =>
    cases l with
    | nil=>exact h2.elim
    | cons x l =>
     simp only [List.all_cons,Bool.and_eq_true,decide_eq_true_eq] at hb
     obtain ⟨a,k,h3,h4⟩:=h2.1
     exact ⟨⟨a,k,hup h3 hb.1,h4⟩,ih hb.2 l h2.2⟩
  ·cases hc
 | bm f cs =>
  simp only [Jt4] at hc
  split at hc
  ·rename_i hb
   injection hc with hc;subst hc
   obtain ⟨vs,h1,h2⟩:=h
   exact ⟨vs,h1,SVR.to (fun r v x hr hx=>hup hx hr) h2 hb⟩
  ·cases hc
 | bool b=>simp only [Jt4] at hc;injection hc with hc;subst hc;exact h
 | int k n=>simp only [Jt4] at hc;injection hc with hc;subst hc;exact h
 | str s=>simp only [Jt4] at hc;injection hc with hc;subst hc;exact h
 | nilp=>simp only [Jt4] at hc;injection hc with hc;subst hc;exact h
 | nils=>simp only [Jt4] at hc;injection hc with hc;subst hc;exact h
 | nilf=>simp only [Jt4] at hc;injection hc with hc;subst hc;exact h
 | nili=>simp only [Jt4] at hc;injection hc with hc;subst hc;exact h
 | und=>simp only [Jt4] at hc;injection hc with hc;subst hc;exact h
 | junk=>simp only [Jt4] at hc;injection hc with hc;subst hc;exact h
 | nilm=>simp only [Jt4] at hc;injection hc with hc;subst hc;exact h
 | gp g off=>simp only [Jt4] at hc;injection hc with hc;subst hc;exact h
 | ifj t=>simp only [Jt4] at hc;injection hc with hc;subst hc;exact h
 | mp r ver =>
  obtain ⟨n,k,h1,h2⟩:=h
  simp only [Jt4] at hc
  split at hc
  ·rename_i hr;injection hc with hc;subst hc;exact ⟨n,k,hup h1 hr,h2⟩
  ·simp only [Option.map_eq_some_iff] at hc
   obtain ⟨i,hi,rfl⟩:=hc
   exact ⟨n,k,hix h1 hi,h2⟩
theorem All2.pick {ρ:Env}{L:Nat}{ks:List (Nat × Nat)}:∀ {cs cs':List CV} {vs:List Value},All2 (VC ρ) cs vs->Ka4 L ks cs=some cs'->All2 (VC (ρ.pick L ks)) cs' vs
 | [],cs',[],_,h=>by simp [Ka4] at h;subst h;trivial
 | c::cs,cs',v::vs,h,hc=>by
  simp only [Ka4] at hc
  split at hc
  ·rename_i c1 cs1 h1 h2
   injection hc with hc;subst hc
   exact ⟨h.1.pick h1,All2.pick h.2 h2⟩
  ·cases hc
 | [],_,_::_,h,_=>h.elim
 | _::_,_,[],h,_=>h.elim
theorem Qf5 {L:Nat}{ks:List (Nat × Nat)}{c:CV}{cs':List CV}(h:Ka4 L ks [c]=some cs'):∃ c',Jt4 L ks c=some c'/\cs'=[c']:=by
 simp only [Ka4] at h
 split at h
 ·rename_i c1 cs1 h1 h2
  injection h with h;injection h2 with h2;subst h2
  exact ⟨c1,h1,h.symm⟩
 ·cases h
theorem Qj9 {L:Nat}{ks:List (Nat × Nat)}:∀ {cs cs':List CV},Ka4 L ks cs=some cs'->cs'.length=cs.length
 | [],cs',h=>by simp [Ka4] at h;subst h;rfl
 | c::cs,cs',h=>by
  simp only [Ka4] at h
  split at h
  ·rename_i c1 cs1 h1 h2
   injection h with h;subst h
   simp [Qj9 h2]
  ·cases h
theorem VR.pick {ρ:Env}{L:Nat}{ks:List (Nat × Nat)}{x x':AV}{v:Value}(h:VR ρ x v)(hc:Kg3 L ks x=some x'):VR (ρ.pick L ks) x' v:=by
 cases x with
 | one c =>
  simp only [Kg3,Option.map_eq_some_iff] at hc
  obtain ⟨c',hc',rfl⟩:=hc
  exact VC.pick h hc'
 | agg cs =>
  simp only [Kg3,Option.map_eq_some_iff] at hc
  obtain ⟨c',hc',rfl⟩:=hc
  obtain ⟨vs,h1,h2⟩:=h
  exact ⟨vs,h1,h2.pick hc'⟩
 | tup ts =>
  simp only [Kg3,Option.map_eq_some_iff] at hc
  obtain ⟨ts',hc',rfl⟩:=hc
  obtain ⟨vs,h1,h2⟩:=h
  refine ⟨vs,h1,?_⟩
  generalize hl:vs.toList=l at h2
  clear h1 hl
  induction ts generalizing l ts' with
  | nil=>simp [Km1] at hc';subst hc';cases l with
   | nil=>trivial
   | cons=>exact h2.elim
  | cons t ts ih =>
   cases l with
   | nil=>exact h2.elim
   | cons x l =>
    obtain ⟨b,cs⟩:=t
    simp only [Km1] at hc'
    split at hc'
    ·rename_i cs1 ts1 h3 h4
     injection hc' with hc';subst hc'
     refine ⟨?_,ih ts1 h4 l h2.2⟩
     have h5:=h2.1
     cases b with
     | true=>obtain ⟨us,h6,h7⟩:=h5;exact ⟨us,h6,h7.pick h3⟩
     | false =>
      match cs,h5,h3 with
      | [],_,h3=>simp [Ka4] at h3;subst h3;trivial
      | [c],h5,h3 =>
       obtain ⟨c',h6,rfl⟩:=Qf5 h3
       exact VC.pick h5 h6
      | c1::c2::cs,_,h3 =>
       have hl:=Qj9 h3
       match cs1,hl with
       | d1::d2::ds,_=>trivial
    ·cases hc'
def Jm8 (m:Ja1):List (Nat × Nat)->Option (List Blk)
 | []=>some []
 | (r,v)::ks=>match m[r]?,Jm8 m ks with
  | some b,some bs=>if b.ver=v then some (⟨b.kind,b.ty,0,b.esz,b.cells⟩::bs) else none
  | _,_=>none
theorem Qa9 {m:Ja1}:∀ {ks:List (Nat × Nat)} {bs:List Blk},Jm8 m ks=some bs->∀ {i:Nat} {b:Blk},bs[i]?=some b->∃ r v b0,ks[i]?=some (r,v)/\m[r]?=some b0/\b0.ver=v/\b=⟨b0.kind,b0.ty,0,b0.esz,b0.cells⟩
 | [],bs,h,i,b,hb=>by simp [Jm8] at h;subst h;simp at hb
 | (r,v)::ks,bs,h,i,b,hb=>by
  simp only [Jm8] at h
  split at h
  ·rename_i b1 bs1 h1 h2
   split at h
   ·rename_i hv
    injection h with h;subst h
    cases i with
    | zero=>simp at hb;exact ⟨r,v,b1,rfl,h1,hv,hb.symm⟩
    | succ i=>simp at hb;simpa using Qa9 h2 hb
   ·cases h
  ·cases h
theorem Qa8 {m:Ja1}:∀ {ks:List (Nat × Nat)} {bs:List Blk},Jm8 m ks=some bs->bs.length=ks.length
 | [],bs,h=>by simp [Jm8] at h;subst h;rfl
 | (r,v)::ks,bs,h=>by
  simp only [Jm8] at h
  split at h
  ·rename_i b1 bs1 h1 h2
   split at h
   ·injection h with h;subst h;simp [Qa8 h2]
   ·cases h
  ·cases h
def Jc2 (L:Nat):List (Nat × Nat)->Prop
 | []=>True
 | (r,_)::ks=>L<=r/\(∀ p,p ∈ ks->p.1≠r)/\Jc2 L ks
theorem Kp1 {L:Nat}:∀ {ks:List (Nat × Nat)},Jc2 L ks->∀ {i j:Nat} {p q:Nat × Nat},ks[i]?=some p->ks[j]?=some q->i≠j->p.1≠q.1
 | [],_,i,j,p,q,hp,_,_=>by simp at hp
 | (r,v)::ks,h,i,j,p,q,hp,hq,hij=>by
  cases i with
  | zero=>cases j with
   | zero=>exact absurd rfl hij
   | succ j=>simp at hp hq;subst hp;exact fun e=>h.2.1 q (List.mem_of_getElem? hq) e.symm
  | succ i=>cases j with
   | zero=>simp at hp hq;subst hq;exact h.2.1 p (List.mem_of_getElem? hp)
   | succ j=>simp at hp hq;exact Kp1 h.2.2 hp hq (by omega)
theorem Jw0 {L:Nat}:∀ {ks:List (Nat × Nat)},Jc2 L ks->∀ {i:Nat} {p:Nat × Nat},ks[i]?=some p->L<=p.1
 | [],_,i,p,hp=>by simp at hp
 | (r,v)::ks,h,i,p,hp=>by
  cases i with
  | zero=>simp at hp;subst hp;exact h.1
  | succ i=>simp at hp;exact Jw0 h.2.2 hp
theorem BlkR.pick {ρ:Env}{L:Nat}{ks:List (Nat × Nat)}{w:World}{r r':Nat}{b:Blk}{ver':Nat}(hb:BlkR ρ w r b)(hwf:b.below L=true)(hr:ρ.pick L ks r' ver'=ρ r b.ver)(hv0:b.kind=.ro->ver'=b.ver\/ver'=0) :
  BlkR (ρ.pick L ks) w r' ⟨b.kind,b.ty,ver',b.esz,b.cells⟩:=by
 have hup:∀ {c:CV} {v:Value},c.below L=true->VC ρ c v->VC (ρ.pick L ks) c v:=fun {c v} hc h=>by
  refine h.pick (c':=c) ?_
  cases c<;>simp [CV.below] at hc<;>simp [Jt4,hc]
  ·exact fun a b c hm=>hc a b c hm
  ·exact fun x hx=>hc x hx
 have hall:∀ {cs:List CV} {vs:List Value},All2 (VC ρ) cs vs->cs.all (CV.below L)=true->All2 (VC (ρ.pick L ks)) cs vs:=by
  intro cs
  induction cs with
  | nil=>intro vs h _;cases vs with
   | nil=>trivial
   | cons=>exact h.elim
  | cons c cs ih =>
   intro vs h hb
   cases vs with
   | nil=>exact h.elim
   | cons v vs =>
    simp only [List.all_cons,Bool.and_eq_true] at hb
    exact ⟨hup hb.1 h.1,ih h.2 hb.2⟩
 have htv:∀ {b:Bool} {cs:List CV} {v:Value},TV ρ (b,cs) v->cs.all (CV.below L)=true->TV (ρ.pick L ks) (b,cs) v:=by
  intro b cs v h hb
  cases b with
  | true=>obtain ⟨vs,h1,h2⟩:=h;exact ⟨vs,h1,hall h2 hb⟩
  | false =>
   match cs,h with
   | [],_=>trivial
   | [c],h=>simp only [List.all_cons,List.all_nil,Bool.and_true] at hb;exact hup hb h
   | _::_::_,_=>trivial
 obtain ⟨kind,ty,ver,esz,cells⟩:=b
 have hwk:=Blk.below_kind hwf
 replace hwf:=Blk.below_cells hwf
 simp only at hwf
 cases kind with
 | fix=>obtain ⟨n,c,k,h1,h2,h3,hk⟩:=hb;exact ⟨n,c,k,by rw [hr];exact h1,h2,hall h3 hwf,hk⟩
 | grow =>
  rcases hb with ⟨h1,h2⟩|⟨n,c,cap,xs,sp,h1,h2,h3,hcm,h4,h5⟩
  ·exact .inl ⟨h1,by rw [hr];exact h2⟩
  ·exact .inr ⟨n,c,cap,xs,sp,by rw [hr];exact h1,h2,h3,hcm,h4,hall h5 hwf⟩
 | ro =>
  obtain ⟨A,k,h1,h2⟩:=hb
  refine ⟨A,k,by rw [hr];exact h1,fun hne=>?_⟩
  obtain ⟨a,ha,hlt,hgl,hc⟩:=h2 hne
  exact ⟨a,ha,hlt,fun hz=>by
   simp only at hz hgl ⊢
   rcases hv0 rfl with hvv|hvv
   ·simp only at hvv;rw [hvv] at hz ⊢;exact hgl hz
   ·omega,fun i c hi=>by
   obtain ⟨v,hv,hr⟩:=hc i c hi
   exact ⟨v,hv,hup (List.all_eq_true.1 hwf c (List.mem_of_getElem? hi)) hr⟩⟩
 | map ka va clock es =>
  obtain ⟨n,o,k,h1,h2,h3,h4⟩:=hb
  refine ⟨n,o,k,by rw [hr];exact h1,h2,?_,h4⟩
  simp only [BK.below,List.all_eq_true,Bool.and_eq_true] at hwk
  refine All2.of_get h3.length fun i e x he hx=>?_
  obtain ⟨x',hx',g1,g2,g3,g4⟩:=h3.get he
  rw [hx] at hx';injection hx' with hx';subst hx'
  have:=hwk e (List.mem_of_getElem? he)
  exact ⟨g1,htv g2 (List.all_eq_true.2 this.1),htv g3 (List.all_eq_true.2 this.2),g4⟩
 | iter rm since seen last =>
  obtain ⟨n,N,k,k',h1,h2,h3,h4⟩:=hb
  simp only [BK.below,decide_eq_true_eq] at hwk
  exact ⟨n,N,k,k',by rw [hr];exact h1,by simp [Env.pick,hwk,h2],h3,h4⟩
def Hands (L:Nat)(x:AV)(mem:Ja1)(ret:AV)(mem':Ja1):Prop :=
 ∀ ρ v w,VR ρ x v->RepM ρ mem w->∃ ρ',VR ρ' ret v/\RepM ρ' mem' w/\∀ m0 ρ0 w0,m0.length<=L->Step m0 ρ0 w0 mem ρ w->Step m0 ρ0 w0 mem' ρ' w
theorem Hands.pick {x ret:AV}{m1 extra:Ja1}(he:mem=m1++extra)(ks:List (Nat × Nat)){bs:List Blk}(hbs:Jm8 mem ks=some bs)(hd:Jc2 m1.length ks)(hx:Kg3 m1.length ks x=some ret)
  (hw:MWf m1.length m1) (hwb:MWf m1.length bs):Hands m1.length x mem ret (m1++bs):=by
 intro ρ v w hv hm
 have hlen:=Qa8 hbs
 have hget:∀ {r:Nat} {b:Blk},(m1++bs)[r]?=some b->∃ s b0,mem[s]?=some b0/\b.kind=b0.kind/\b.cells=b0.cells/\ρ.pick m1.length ks r b.ver=ρ s b0.ver/\(r<m1.length->s=r/\b=b0)/\(m1.length<=r->∃ i,r=m1.length+i/\ks[i]?=some (s,b0.ver)/\b.ver=0) /\
   b=⟨b0.kind,b0.ty,b.ver,b0.esz,b0.cells⟩/\b0.below m1.length=true:=by
  intro r b hb
  rcases Nat.lt_or_ge r m1.length with hr|hr
  ·rw [List.getElem?_append_left hr] at hb
   refine ⟨r,b,by rw [he,List.getElem?_append_left hr];exact hb,rfl,rfl,by simp [Env.pick,hr],fun _=>⟨rfl,rfl⟩,fun h=>by omega,rfl,hw b (List.mem_of_getElem? hb)⟩
  ·rw [List.getElem?_append_right hr] at hb
   obtain ⟨s,v,b0,h1,h2,h3,h4⟩:=Qa9 hbs hb
   have hwf:=hwb b (List.mem_of_getElem? hb)
   subst h4
   refine ⟨s,b0,h2,rfl,rfl,?_,fun h=>by omega,fun _=>⟨r - m1.length,by omega,by rw [h3];exact h1,rfl⟩,rfl,hwf⟩
   have hnot:¬r<m1.length:=by omega
   simp [Env.pick,hnot,h1,h3]
 have hinj:∀ {r r' s:Nat} {b b' b0 b0':Blk},(m1++bs)[r]?=some b->(m1++bs)[r']?=some b'->r≠r'->True:=fun _ _ _=>trivial
 refine ⟨ρ.pick m1.length ks,hv.pick hx,⟨?_,?_,?_,?_⟩,?_⟩
 ·intro r b hb
  obtain ⟨s,b0,h1,h2,h3,h4,h5,h6,h7,h8⟩:=hget hb
  rw [h7]
  exact (hm.blk s b0 h1).pick h8 h4 (fun _=>by
   rcases Nat.lt_or_ge r m1.length with hr|hr
   ·exact .inl (by rw [(h5 hr).2])
   ·obtain ⟨_,_,_,h11⟩:=h6 hr;exact .inr h11)
 ·intro r v hr
  simp only [List.length_append] at hr
  simp only [Env.pick]
  rw [if_neg (by omega)]
  split
  ·rw [List.getElem?_eq_none (by omega)];rfl
  ·rfl
 ·intro r b v hb hv
  obtain ⟨s,b0,h1,h2,h3,h4,h5,h6,h7,h8⟩:=hget hb
  rcases Nat.lt_or_ge r m1.length with hr|hr
  ·obtain ⟨e1,e2⟩:=h5 hr
   subst e1;subst e2
   simp only [Env.pick]
   rw [if_pos hr]
   exact hm.domv s b v h1 hv
  ·obtain ⟨i,h9,h10,h11⟩:=h6 hr
   simp only [Env.pick]
   rw [if_neg (by omega),if_neg (by omega)]
 ·intro r r' b b' hb hb' hrr hk hne x y k l hx hy
  obtain ⟨s,b0,h1,h2,h3,h4,h5,h6,h7,h8⟩:=hget hb
  obtain ⟨s',b0',h1',h2',h3',h4',h5',h6',h7',h8'⟩:=hget hb'
  rw [h4] at hx;rw [h4'] at hy
  have hss:s≠s':=by
   rcases Nat.lt_or_ge r m1.length with hr|hr<;>rcases Nat.lt_or_ge r' m1.length with hr'|hr'
   ·rw [(h5 hr).1,(h5' hr').1];exact hrr
   ·obtain ⟨i,h9,h10,h11⟩:=h6' hr'
    have:=Jw0 hd h10
    have:=(h5 hr).1
    simp only at *
    omega
   ·obtain ⟨i,h9,h10,h11⟩:=h6 hr
    have:=Jw0 hd h10
    have:=(h5' hr').1
    simp only at *
    omega
   ·obtain ⟨i,h9,h10,h11⟩:=h6 hr
    obtain ⟨j,h9',h10',h11'⟩:=h6' hr'
    exact Kp1 hd h10 h10' (fun e=>hrr (by rw [h9,h9',e]))
  exact hm.sep s s' b0 b0' h1 h1' hss (by rw [<-h2];exact hk) (fun e=>by rw [<-h3'];exact hne (h2'.trans e)) x y k l hx hy
 ·intro m0 ρ0 w0 hl hs
  refine ⟨hs.os,hs.tape,hs.output,hs.size,by simp only [List.length_append];omega,fun r h v x hx=>?_,?_,?_,hs.frame,?_⟩
  ·have hr:=hs.ext r h v x hx
   simp only [Env.pick];rw [if_pos (by omega)];exact hr
  ·intro r b b' hb hb'
   obtain ⟨s,b0,h1,h2,h3,h4,h5,h6,h7,h8⟩:=hget hb'
   have hr0:=(List.getElem?_eq_some_iff.1 hb).1
   obtain ⟨e1,e2⟩:=h5 (by omega)
   subst e1;subst e2
   exact hs.kind s b b' hb h1
  ·intro r b hb hro
   obtain ⟨s,b0,h1,h2,h3,h4,h5,h6,h7,h8⟩:=hget hb
   have h9:=hs.ro s b0 h1 (h2 ▸ hro)
   rcases Nat.lt_or_ge r m1.length with hr|hr
   ·obtain ⟨e1,e2⟩:=h5 hr
    subst e1;subst e2
    exact h9
   ·exfalso
    obtain ⟨i,_,h10,_⟩:=h6 hr
    have h11:=Jw0 hd h10
    have h12:=(List.getElem?_eq_some_iff.1 h9).1
    simp only at h11
    omega
  ·intro r b x k hb hk hx
   obtain ⟨s,b0,h1,h2,h3,h4,h5,h6,h7,h8⟩:=hget hb
   rw [h4] at hx
   exact hs.fresh s b0 x k h1 (by rw [<-h2];exact hk) hx
theorem Hands.drop {x:AV}{m1 extra:Ja1}(he:mem=m1++extra)(hx:x.below m1.length=true)(hw:MWf m1.length m1):Hands m1.length x mem x m1:=by
 intro ρ v w hv hm
 have ht:Rep ρ 1 [(0,x)] mem ⟨#[v],[]⟩ w:=⟨by simp,fun i=>by
  cases i with
  | zero=>simpa [Tm.get] using hv
  | succ i=>simp [Tm.get];trivial,hm⟩
 obtain ⟨ρ',h1,h2⟩:=Weak.trunc (nt:=1) (tm:=[(0,x)]) he (fun p hp=>by simp at hp;subst hp;exact hx) hw ρ _ w ht
 refine ⟨ρ',?_,h1.mem,h2⟩
 have:=h1.tm 0
 simpa [Tm.get] using this
def AV.tv:AV->Option (Bool × List CV)
 | .one c=>some (false,[c])
 | .agg cs=>some (true,cs)
 | .tup _=>none
variable (P)
def Jb1 (tm:Tm)(mem:Ja1):ResultVar->Option AV
 | .tmp t=>some (Tm.get tm t)
 | .cell t ty=>Jt3 P ty (Tm.get tm t) mem
def Jb9 (tm:Tm)(mem:Ja1):List ResultVar->Option (List (Bool × List CV))
 | []=>some []
 | r::rs=>match (Jb1 P tm mem r).bind AV.tv,Jb9 tm mem rs with
  | some t,some ts=>some (t::ts)
  | _,_=>none
def Je0 (rs:List ResultVar)(tm:Tm)(mem:Ja1):Option AV :=
 match rs with
 | [r]=>Jb1 P tm mem r
 | rs=>(Jb9 P tm mem rs).map .tup
variable {P}
def Ks2 (tmps:Array Value):ResultVar->Sem Value
 | .tmp t=>pure (tmps.getD t undef)
 | .cell p t=>do loadVar t (<-asAddr (tmps.getD p undef))
theorem Qr7 (fn:Func)(tmps:Array Value):results fn tmps=(do
  let vs <-fn.results.mapM (Ks2 tmps)
  pure (if h:vs.size=1 then vs[0] else .tuple vs)):=by
 unfold results
 congr 1
theorem Ks0 {ρ:Env}{a:Act}{w:World}(hr:Rep ρ nt tm mem a w){r:ResultVar}{x:AV}(h:Jb1 P tm mem r=some x) :
  ∃ v,(Ks2 a.tmps r).run P w=.ok v w/\VR ρ x v:=by
 cases r with
 | tmp t=>simp only [Jb1] at h;injection h with h;subst h;exact ⟨_,rfl,hr.tm t⟩
 | cell p t =>
  simp only [Jb1] at h
  obtain ⟨v,hv,hvr⟩:=Kz7 P hr.mem h (hr.tm p)
  refine ⟨v,?_,hvr⟩
  unfold Jt3 at h
  split at h
  ·rename_i r ver off hp
   have hpv:=hr.tm p
   rw [hp] at hpv
   obtain ⟨ad,k,_,e⟩:=hpv
   simp only [Ks2]
   rw [e] at hv ⊢
   exact hv
  ·rename_i g off hp
   have hpv:=hr.tm p
   rw [hp] at hpv
   have e:a.tmps.getD p undef=_:=hpv
   simp only [Ks2]
   rw [e] at hv ⊢
   exact hv
  ·cases h
theorem VR_tv {ρ:Env}{x:AV}{v:Value}(h:VR ρ x v){t:Bool × List CV}(ht:x.tv=some t):TV ρ t v:=by
 cases x with
 | one c=>simp only [AV.tv] at ht;injection ht with ht;subst ht;exact h
 | agg cs=>simp only [AV.tv] at ht;injection ht with ht;subst ht;exact h
 | tup ts=>cases ht
theorem Kz5 {ρ:Env}{a:Act}{w:World}(hr:Rep ρ nt tm mem a w):∀ {rs:List ResultVar} {ts:List (Bool × List CV)},Jb9 P tm mem rs=some ts ->
  ∃ vs,(rs.mapM (Ks2 a.tmps)).run P w=.ok vs w/\All2 (TV ρ) ts vs
 | [],ts,h=>by simp [Jb9] at h;subst h;exact ⟨[],by simp,trivial⟩
 | r::rs,ts,h=>by
  simp only [Jb9] at h
  split at h
  ·rename_i t ts' h1 h2
   injection h with h;subst h
   simp only [Option.bind_eq_some_iff] at h1
   obtain ⟨x,hx,ht⟩:=h1
   obtain ⟨v,hv,hvr⟩:=Ks0 hr hx
   obtain ⟨vs,hvs,hall⟩:=Kz5 hr h2
   refine ⟨v::vs,?_,VR_tv hvr ht,hall⟩
   simp only [List.mapM_cons,Sem.run_bind,hv,Result.andThen_ok,hvs,Sem.run_pure]
  ·cases h
theorem Qa3:∀ {rs:List ResultVar} {ts:List (Bool × List CV)},Jb9 P tm mem rs=some ts->ts.length=rs.length
 | [],ts,h=>by simp [Jb9] at h;subst h;rfl
 | r::rs,ts,h=>by
  simp only [Jb9] at h
  split at h
  ·rename_i t ts' h1 h2
   injection h with h;subst h
   simp [Qa3 h2]
  ·cases h
theorem Vn0 {ρ:Env}{a:Act}{w:World}(hr:Rep ρ nt tm mem a w){fn:Func}{x:AV}(h:Je0 P fn.results.toList tm mem=some x):∃ v,(results fn a.tmps).run P w=.ok v w/\VR ρ x v:=by
 have hm:∀ vs:List Value,(fn.results.toList.mapM (Ks2 a.tmps)).run P w=.ok vs w->(results fn a.tmps).run P w=.ok (if h:vs.toArray.size=1 then vs.toArray[0] else .tuple vs.toArray) w:=by
  intro vs hvs
  rw [Qr7]
  generalize hl:fn.results.toList=l at hvs
  have hl':fn.results=l.toArray:=by rw [<-hl]
  rw [hl',List.mapM_toArray]
  simp only [Sem.run_bind,Sem.run_map,hvs,Result.andThen_ok,Sem.run_pure]
 unfold Je0 at h
 split at h
 ·rename_i r hrs
  obtain ⟨v,hv,hvr⟩:=Ks0 hr h
  refine ⟨v,?_,hvr⟩
  have:=hm [v] (by rw [hrs];simp only [List.mapM_cons,List.mapM_nil,Sem.run_bind,hv,Result.andThen_ok,Sem.run_pure])
  rw [this]
  simp
 ·rename_i rs hne
  simp only [Option.map_eq_some_iff] at h
  obtain ⟨ts,hts,rfl⟩:=h
  obtain ⟨vs,hvs,hall⟩:=Kz5 hr hts
  refine ⟨.tuple vs.toArray,?_,vs.toArray,rfl,by simpa using hall⟩
  rw [hm vs hvs,dif_neg]
  intro h2
  simp only [List.size_toArray] at h2
  rw [<-hall.length,Qa3 hts] at h2
  obtain ⟨r,hr1⟩:=List.length_eq_one_iff.1 h2
  exact hne r hr1
def Jp2:Nat->List AV->Tm
 | _,[]=>[]
 | i,x::xs=>(i,x)::Jp2 (i+1) xs
theorem Ko8 {ρ:Env}:∀ (xs:List AV) (vs rest:List Value) (i:Nat),All2 (VR ρ) xs vs->∀ j,VR ρ (Tm.get (Jp2 i xs) (i+j)) ((vs++rest)[j]?.getD undef)
 | [],[],rest,i,_,j=>trivial
 | x::xs,v::vs,rest,i,h,j=>by
  cases j with
  | zero=>simpa [Jp2,Tm.get] using h.1
  | succ j =>
   have:=Ko8 xs vs rest (i+1) h.2 j
   simp only [Jp2,Tm.get]
   rw [if_neg (by omega)]
   simpa [Nat.add_assoc,Nat.add_comm 1 j] using this
 | [],_::_,_,_,h,_=>h.elim
 | _::_,[],_,_,h,_=>h.elim
theorem Ctr.of_body {f : FuncId} {fn : Func} {c : Code} {args : List AV} {ret : AV} (hf : P.funcs[f]? = some fn) (hb : fn.body = some c) (hname : (fn.name == "runtime.NumGoroutine") = false)
  (h:MWf mem.length mem->AW P fn.ntmps c (Jp2 0 args) mem (fun ex tm' m'=>(ex=.normal\/ex=.ret)/\∃ x,Je0 P fn.results.toList tm' m'=some x/\Hands mem.length x m' ret mem')):Ctr P f args mem ret mem':=by
 refine fun ρ w vs hm hargs=>.inl ⟨⟨fn,hf,hname,by rw [hb];rfl⟩,?_⟩
 refine calls_of_wp hf hb ?_
 have hrep:Rep ρ fn.ntmps (Jp2 0 args) mem { tmps:=vs.toArray++Array.replicate (fn.ntmps - vs.toArray.size) undef,defers:=[] } w:=by
  refine ⟨by simp;omega,fun i=>?_,hm⟩
  have:=Ko8 args vs (List.replicate (fn.ntmps - vs.length) undef) 0 hargs i
  simp only [Nat.zero_add] at this
  have e:(vs.toArray++Array.replicate (fn.ntmps - vs.toArray.size) undef).getD i undef=(vs++List.replicate (fn.ntmps - vs.length) undef)[i]?.getD undef:=by
   rw [Array.getD_eq_getD_getElem?,<-Array.getElem?_toList]
   simp
  rw [<-e] at this
  exact this
 refine wp_mono (h hm.wf ρ _ w hrep) ?_
 rintro ex a' w' ⟨ρ',tm',m',hr',hs,hd,hex,x,hres,hands⟩
 obtain ⟨v,hv,hvr⟩:=Vn0 hr' hres
 obtain ⟨ρ2,h1,h2,h3⟩:=hands ρ' v w' hvr hr'.mem
 have hpost:a'.defers=[]/\∃ v,(results fn a'.tmps).run P w'=.ok v w'/\∃ v_1 ρ',Ending.returned v=Ending.returned v_1/\VR ρ' ret v_1/\RepM ρ' mem' w'/\Step mem ρ w mem' ρ' w' :=
  ⟨hd,v,hv,v,ρ2,rfl,h1,h2,h3 _ _ _ (Nat.le_refl _) hs⟩
 rcases hex with rfl|rfl
 ·exact hpost
 ·exact hpost
end
theorem Jf3 {α:Type}(m l:List α)(k:Nat):(m++l)[m.length+k]?=l[k]?:=by
 rw [List.getElem?_append_right (by omega)];congr 1;omega
theorem Jn8 {α:Type}(m l:List α):(m++l)[m.length]?=l[0]?:=by
 rw [List.getElem?_append_right (by omega)];congr 1;omega
theorem Xd0 {α:Type}(m l:List α)(k:Nat)(b:α):(m++l).set (m.length+k) b=m++l.set k b:=by
 rw [List.set_append_right _ _ (by omega)];congr 2;omega
theorem Vm5 {α:Type}(m l:List α)(b:α):(m++l).set m.length b=m++l.set 0 b:=by
 rw [List.set_append_right _ _ (by omega)];congr 2;omega
theorem Ja4 {α:Type}{m:List α}{r:Nat}{b:α}(h:m[r]?=some b)(l:List α):(m++l)[r]?=some b:=by
 rw [List.getElem?_append_left (List.getElem?_eq_some_iff.1 h).1];exact h
theorem Tm.get_cons (j:Nat)(v:AV)(r:List (Nat × AV))(i:Nat):Tm.get ((j,v)::r) i=if i=j then v else Tm.get r i:=rfl
end Go.Eng
