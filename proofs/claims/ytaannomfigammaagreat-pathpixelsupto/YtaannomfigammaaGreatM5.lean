/- Walks and facts of this seat's program over abstract states, printed by programs of mine; no conditions but those that each theorem names. -/
import Derived.Test.YtaannomfigammaaGreatM4
set_option linter.unusedSimpArgs false
set_option linter.unusedVariables false
set_option maxRecDepth 100000
set_option maxHeartbeats 4000000
namespace Go.Proofs.YtaannomfigammaaGreat
open Go Go.Eng
theorem Vd0 (b c:BX)(m:Ja1)(q:Bool)(hq:q=true↔Ju4 b c):Ctr Tryz.prog 124 [.agg (bxC b),.agg (bxC c)] m (.one (.bool q)) m:=by
 by_cases g0:c.hi 0<b.lo 0
 ·obtain rfl:q=false:=by
   cases q with
   | false=>rfl
   | true=>exact absurd g0 ((hq.1 rfl) 0 (by omega)).1
  exact Vp4 b c m g0
 by_cases g1:b.hi 0<c.lo 0
 ·obtain rfl:q=false:=by
   cases q with
   | false=>rfl
   | true=>exact absurd g1 ((hq.1 rfl) 0 (by omega)).2
  exact Vp3 b c m g0 g1
 by_cases g2:c.hi 1<b.lo 1
 ·obtain rfl:q=false:=by
   cases q with
   | false=>rfl
   | true=>exact absurd g2 ((hq.1 rfl) 1 (by omega)).1
  exact Vp2 b c m g0 g1 g2
 by_cases g3:b.hi 1<c.lo 1
 ·obtain rfl:q=false:=by
   cases q with
   | false=>rfl
   | true=>exact absurd g3 ((hq.1 rfl) 1 (by omega)).2
  exact Vp1 b c m g0 g1 g2 g3
 by_cases g4:c.hi 2<b.lo 2
 ·obtain rfl:q=false:=by
   cases q with
   | false=>rfl
   | true=>exact absurd g4 ((hq.1 rfl) 2 (by omega)).1
  exact Vp0 b c m g0 g1 g2 g3 g4
 by_cases g5:b.hi 2<c.lo 2
 ·obtain rfl:q=false:=by
   cases q with
   | false=>rfl
   | true=>exact absurd g5 ((hq.1 rfl) 2 (by omega)).2
  exact Vo9 b c m g0 g1 g2 g3 g4 g5
 obtain rfl:q=true:=hq.2 fun k hk=>by
  match k,hk with
  | 0,_=>exact ⟨g0,g1⟩
  | 1,_=>exact ⟨g2,g3⟩
  | 2,_=>exact ⟨g4,g5⟩
 exact Vo8 b c m g0 g1 g2 g3 g4 g5
theorem Xk9 (m:Ja1):Ctr Tryz.prog 180 [] m (.agg (bxC Vi5)) m:=by
 refine Ctr.en Tryz.func180 [.cell 0 232] 4 fun hwf Q hQ=>?_
 have hv:bxC Vi5=[.int .i64 (-2147483648),.int .i64 (-2147483648),.int .i64 (-2147483648),.int .i64 2147483648,.int .i64 2147483648,.int .i64 2147483648]:=rfl
 rw [hv] at hQ
 refine AW.c 2 Tru Qa7 ?_
 exact AW.ret (hQ _ _ _ (RetP.z hwf Tru))
theorem Vc7 (M:MV)(m:Ja1)(h1:Kd7 (Jn2 M).a):Ctr Tryz.prog 101 [.agg (mvC M)] m (.agg (prC (Kd8 M))) m:=by
 refine Ctr.en Tryz.func101 [.cell 2 234] 42 fun hwf Q hQ=>?_
 have hv:Kd8 M=⟨Vi5,Vi5⟩:=by unfold Kd8;rw [if_pos (.inl h1)]
 rw [hv] at hQ
 have hp:Jn2 M=⟨Jc7 M.A,Jc7 ⟨M.A.kind,M.B.paint,M.B.P,M.B.r⟩⟩:=rfl
 have U1:=ca4 @Kq4 @Jq4 @Kg9 (ca2 @Je8 @Ja4)
 refine AW.c 2 U1 Tru ?_
 refine AW.d [.val,.rd 0,.ext,.val,.rd 0,.ext,.val,.fl,.wr] fol U1 (ca2 (Jq1 M.A) (Jq1 ⟨M.A.kind,M.B.paint,M.B.P,M.B.r⟩)) ?_
 refine AW.d [.val,.val,.rd 0,.ext,.val,.val,.rd 0,.ext,.val,.val] fol U1 Jz2 ?_
 refine AW.q fun K J0=>?_
 refine AW.sr 1 fun K J1=>?_
 simp only [push_cast,simprocAttr,U1]
 refine CThen.by (Ko4 (Jc7 M.A) _ true ⟨fun _=>h1,fun _=>rfl⟩) ?_
 simp only [push_cast,simprocAttr,U1]
 apply J1
 apply AW.y rfl
 refine AW.c 1 U1 Xk9 ?_
 exact AW.ret (hQ _ _ _ (RetP.z hwf Tru))
theorem Vc6 (M:MV)(m:Ja1)(h1:¬Kd7 (Jn2 M).a)(h2:Kd7 (Jn2 M).b):Ctr Tryz.prog 101 [.agg (mvC M)] m (.agg (prC (Kd8 M))) m:=by
 refine Ctr.en Tryz.func101 [.cell 2 234] 42 fun hwf Q hQ=>?_
 have hv:Kd8 M=⟨Vi5,Vi5⟩:=by unfold Kd8;rw [if_pos (.inr (.inl h2))]
 rw [hv] at hQ
 have hp:Jn2 M=⟨Jc7 M.A,Jc7 ⟨M.A.kind,M.B.paint,M.B.P,M.B.r⟩⟩:=rfl
 have U2:=ca4 @Kq4 @Jq4 @Kg9 (ca2 @Je8 @Ja4)
 refine AW.c 2 U2 Tru ?_
 refine AW.d [.val,.rd 0,.ext,.val,.rd 0,.ext,.val,.fl,.wr] fol U2 (ca2 (Jq1 M.A) (Jq1 ⟨M.A.kind,M.B.paint,M.B.P,M.B.r⟩)) ?_
 refine AW.d [.val,.val,.rd 0,.ext,.val,.val,.rd 0,.ext,.val,.val] fol U2 Jz2 ?_
 refine AW.q fun K J0=>?_
 refine AW.c 1 U2 (ca2 (Ko4 (Jc7 M.A) _ false ⟨fun h=>(by cases h),fun h=>absurd h h1⟩) (Ko4 (Jc7 ⟨M.A.kind,M.B.paint,M.B.P,M.B.r⟩) _ true ⟨fun _=>h2,fun _=>rfl⟩)) ?_
 apply AW.y rfl
 refine AW.c 1 U2 Xk9 ?_
 exact AW.ret (hQ _ _ _ (RetP.z hwf Tru))
theorem Vc5 (M:MV)(m:Ja1)(h1:¬Kd7 (Jn2 M).a)(h2:¬Kd7 (Jn2 M).b)(h3:2147483648<=maxI (Jd6 M.A.r 8192) (Jd6 M.B.r 8192)):Ctr Tryz.prog 101 [.agg (mvC M)] m (.agg (prC (Kd8 M))) m:=by
 refine Ctr.en Tryz.func101 [.cell 2 234] 42 fun hwf Q hQ=>?_
 have hv:Kd8 M=⟨Vi5,Vi5⟩:=by unfold Kd8;rw [if_pos (.inr (.inr h3))]
 rw [hv] at hQ
 have hp:Jn2 M=⟨Jc7 M.A,Jc7 ⟨M.A.kind,M.B.paint,M.B.P,M.B.r⟩⟩:=rfl
 have U3:=ca4 @Kq4 @Jq4 @Kg9 (ca4 @Je8 @Ja4 h3 (ca2 @decide_true @decide_false))
 refine AW.c 2 U3 Tru ?_
 refine AW.d [.val,.rd 0,.ext,.val,.rd 0,.ext,.val,.fl,.wr] fol U3 (ca2 (Jq1 M.A) (Jq1 ⟨M.A.kind,M.B.paint,M.B.P,M.B.r⟩)) ?_
 refine AW.d [.val,.val,.rd 0,.ext,.val,.val,.rd 0,.ext,.val,.val] fol U3 Jz2 ?_
 refine AW.q fun K J0=>?_
 refine AW.c 1 U3 (ca2 (Ko4 (Jc7 M.A) _ false ⟨fun h=>(by cases h),fun h=>absurd h h1⟩) (Ko4 (Jc7 ⟨M.A.kind,M.B.paint,M.B.P,M.B.r⟩) _ false ⟨fun h=>(by cases h),fun h=>absurd h h2⟩)) ?_
 apply AW.y rfl
 refine AW.c 1 U3 Xk9 ?_
 exact AW.ret (hQ _ _ _ (RetP.z hwf Tru))
theorem Vc4 (M:MV)(m:Ja1)(h1:¬Kd7 (Jn2 M).a)(h2:¬Kd7 (Jn2 M).b)(h3:¬2147483648<=maxI (Jd6 M.A.r 8192) (Jd6 M.B.r 8192)):Ctr Tryz.prog 101 [.agg (mvC M)] m (.agg (prC (Kd8 M))) m:=by
 refine Ctr.en Tryz.func101 [.cell 2 234] 42 fun hwf Q hQ=>?_
 have hv:Kd8 M=Jn2 M:=by unfold Kd8;rw [if_neg (show ¬badM M from fun h=>h.elim h1 fun h=>h.elim h2 h3)]
 rw [hv] at hQ
 have hp:Jn2 M=⟨Jc7 M.A,Jc7 ⟨M.A.kind,M.B.paint,M.B.P,M.B.r⟩⟩:=rfl
 rw [hp] at hQ
 have U4:=ca4 @Kq4 @Jq4 @Kg9 (ca4 @Je8 @Ja4 h3 (ca2 @decide_true @decide_false))
 refine AW.c 2 U4 Tru ?_
 refine AW.d [.val,.rd 0,.ext,.val,.rd 0,.ext,.val,.fl,.wr] fol U4 (ca2 (Jq1 M.A) (Jq1 ⟨M.A.kind,M.B.paint,M.B.P,M.B.r⟩)) ?_
 refine AW.d [.val,.val,.rd 0,.ext,.val,.val,.rd 0,.ext,.val,.val] fol U4 Jz2 ?_
 refine AW.q fun K J0=>?_
 refine AW.c 1 U4 (ca2 (Ko4 (Jc7 M.A) _ false ⟨fun h=>(by cases h),fun h=>absurd h h1⟩) (Ko4 (Jc7 ⟨M.A.kind,M.B.paint,M.B.P,M.B.r⟩) _ false ⟨fun h=>(by cases h),fun h=>absurd h h2⟩)) ?_
 apply AW.x rfl
 apply AW.z
 apply J0
 refine AW.c 1 U4 Tru ?_
 exact AW.ret (hQ _ _ _ (RetP.z hwf Tru))
theorem Vo4 (M:MV)(m:Ja1):Ctr Tryz.prog 101 [.agg (mvC M)] m (.agg (prC (Kd8 M))) m:=by
 by_cases h1:Kd7 (Jn2 M).a
 ·exact Vc7 M m h1
 by_cases h2:Kd7 (Jn2 M).b
 ·exact Vc6 M m h1 h2
 by_cases h3:2147483648<=maxI (Jd6 M.A.r 8192) (Jd6 M.B.r 8192)
 ·exact Vc5 M m h1 h2 h3
 exact Vc4 M m h1 h2 h3
theorem Qv6 (a:V)(k:Nat)(hk:k<3)(m:Ja1):Ctr Tryz.prog 175 [.agg (c3C a),.one (.int .i64 ((k:Int)))] m (.one (.int .i64 (a k))) m :=
 match k,hk with
 | 0,_=>Jc6 a m
 | 1,_=>Jd5 a m
 | 2,_=>Jf9 a m
theorem Qv1 (v:V)(m:Ja1)(g1:¬Jj6 (v 0)<Jj6 (v 1))(g2:¬Jj6 (v 0)<Jj6 (v 2)):Ctr Tryz.prog 253 [.agg (c3C v)] m (.one (.int .i64 ((Jh5 v:Int)))) m:=by
 refine Ctr.en Tryz.func253 [.tmp 2] 20 fun hwf Q hQ=>?_
 have hv:Jh5 v=0:=by unfold Jh5 Jz5;rw [if_neg g1];exact if_neg g2
 rw [hv] at hQ
 have U1:=ca4 @Ja4 g1 g2 (ca2 @decide_true @decide_false)
 refine AW.c 2 U1 Tru ?_
 refine AW.q fun K J0=>?_
 refine AW.c 1 U1 Tru ?_
 apply AW.b
 refine AW.r 3 ?_
 refine ARounds.s fun K J1=>?_
 refine AW.q fun K J2=>?_
 refine AW.c 1 U1 Tru ?_
 apply AW.y rfl
 apply AW.z
 apply J2
 refine AW.q fun K J2=>?_
 apply AW.b
 refine AW.d [.rd 0,.val,.ext,.ext,.rd 0,.val,.ext,.ext,.val] fol U1 (ca3 (Jd5 v) Jj5 (Jc6 v)) ?_
 apply AW.x rfl
 apply AW.z
 apply Ja8
 apply J2
 refine AW.g U1 Tru ?_
 apply J1
 refine ARounds.s fun K J1=>?_
 refine AW.q fun K J2=>?_
 refine AW.c 1 U1 Tru ?_
 apply AW.y rfl
 apply AW.z
 apply J2
 refine AW.q fun K J2=>?_
 apply AW.b
 refine AW.d [.rd 0,.val,.ext,.ext,.rd 0,.val,.ext,.ext,.val] fol U1 (ca3 (Jf9 v) Jj5 (Jc6 v)) ?_
 apply AW.x rfl
 apply AW.z
 apply Ja8
 apply J2
 refine AW.g U1 Tru ?_
 apply J1
 refine ARounds.s fun K J1=>?_
 refine AW.q fun K J2=>?_
 refine AW.c 1 U1 Tru ?_
 apply AW.x rfl
 apply AW.v
 apply Jb0
 apply Jb0
 apply Ja6
 apply J0
 refine AW.c 1 U1 Tru ?_
 exact AW.ret (hQ _ _ _ (RetP.z hwf U1))
theorem Qv0 (v:V)(m:Ja1)(g1:¬Jj6 (v 0)<Jj6 (v 1))(g2:Jj6 (v 0)<Jj6 (v 2)):Ctr Tryz.prog 253 [.agg (c3C v)] m (.one (.int .i64 ((Jh5 v:Int)))) m:=by
 refine Ctr.en Tryz.func253 [.tmp 2] 20 fun hwf Q hQ=>?_
 have hv:Jh5 v=2:=by unfold Jh5 Jz5;rw [if_neg g1];exact if_pos g2
 rw [hv] at hQ
 have U2:=ca4 @Ja4 g1 g2 (ca2 @decide_true @decide_false)
 refine AW.c 2 U2 Tru ?_
 refine AW.q fun K J0=>?_
 refine AW.c 1 U2 Tru ?_
 apply AW.b
 refine AW.r 3 ?_
 refine ARounds.s fun K J1=>?_
 refine AW.q fun K J2=>?_
 refine AW.c 1 U2 Tru ?_
 apply AW.y rfl
 apply AW.z
 apply J2
 refine AW.q fun K J2=>?_
 apply AW.b
 refine AW.d [.rd 0,.val,.ext,.ext,.rd 0,.val,.ext,.ext,.val] fol U2 (ca3 (Jd5 v) Jj5 (Jc6 v)) ?_
 apply AW.x rfl
 apply AW.z
 apply Ja8
 apply J2
 refine AW.g U2 Tru ?_
 apply J1
 refine ARounds.s fun K J1=>?_
 refine AW.q fun K J2=>?_
 refine AW.c 1 U2 Tru ?_
 apply AW.y rfl
 apply AW.z
 apply J2
 refine AW.q fun K J2=>?_
 apply AW.b
 refine AW.d [.rd 0,.val,.ext,.ext,.rd 0,.val,.ext,.ext,.val] fol U2 (ca3 (Jf9 v) Jj5 (Jc6 v)) ?_
 apply AW.y rfl
 refine AW.g U2 Tru ?_
 apply Ja8
 apply J2
 refine AW.g U2 Tru ?_
 apply J1
 refine ARounds.s fun K J1=>?_
 refine AW.q fun K J2=>?_
 refine AW.c 1 U2 Tru ?_
 apply AW.x rfl
 apply AW.v
 apply Jb0
 apply Jb0
 apply Ja6
 apply J0
 refine AW.c 1 U2 Tru ?_
 exact AW.ret (hQ _ _ _ (RetP.z hwf U2))
theorem Qu9 (v:V)(m:Ja1)(g1:Jj6 (v 0)<Jj6 (v 1))(g2:¬Jj6 (v 1)<Jj6 (v 2)):Ctr Tryz.prog 253 [.agg (c3C v)] m (.one (.int .i64 ((Jh5 v:Int)))) m:=by
 refine Ctr.en Tryz.func253 [.tmp 2] 20 fun hwf Q hQ=>?_
 have hv:Jh5 v=1:=by unfold Jh5 Jz5;rw [if_pos g1];exact if_neg g2
 rw [hv] at hQ
 have U3:=ca4 @Ja4 g1 g2 (ca2 @decide_true @decide_false)
 refine AW.c 2 U3 Tru ?_
 refine AW.q fun K J0=>?_
 refine AW.c 1 U3 Tru ?_
 apply AW.b
 refine AW.r 3 ?_
 refine ARounds.s fun K J1=>?_
 refine AW.q fun K J2=>?_
 refine AW.c 1 U3 Tru ?_
 apply AW.y rfl
 apply AW.z
 apply J2
 refine AW.q fun K J2=>?_
 apply AW.b
 refine AW.d [.rd 0,.val,.ext,.ext,.rd 0,.val,.ext,.ext,.val] fol U3 (ca3 (Jd5 v) Jj5 (Jc6 v)) ?_
 apply AW.y rfl
 refine AW.g U3 Tru ?_
 apply Ja8
 apply J2
 refine AW.g U3 Tru ?_
 apply J1
 refine ARounds.s fun K J1=>?_
 refine AW.q fun K J2=>?_
 refine AW.c 1 U3 Tru ?_
 apply AW.y rfl
 apply AW.z
 apply J2
 refine AW.q fun K J2=>?_
 apply AW.b
 refine AW.d [.rd 0,.val,.ext,.ext,.rd 0,.val,.ext,.ext,.val] fol U3 (ca3 (Jf9 v) Jj5 (Jd5 v)) ?_
 apply AW.x rfl
 apply AW.z
 apply Ja8
 apply J2
 refine AW.g U3 Tru ?_
 apply J1
 refine ARounds.s fun K J1=>?_
 refine AW.q fun K J2=>?_
 refine AW.c 1 U3 Tru ?_
 apply AW.x rfl
 apply AW.v
 apply Jb0
 apply Jb0
 apply Ja6
 apply J0
 refine AW.c 1 U3 Tru ?_
 exact AW.ret (hQ _ _ _ (RetP.z hwf U3))
theorem Qu8 (v:V)(m:Ja1)(g1:Jj6 (v 0)<Jj6 (v 1))(g2:Jj6 (v 1)<Jj6 (v 2)):Ctr Tryz.prog 253 [.agg (c3C v)] m (.one (.int .i64 ((Jh5 v:Int)))) m:=by
 refine Ctr.en Tryz.func253 [.tmp 2] 20 fun hwf Q hQ=>?_
 have hv:Jh5 v=2:=by unfold Jh5 Jz5;rw [if_pos g1];exact if_pos g2
 rw [hv] at hQ
 have U4:=ca4 @Ja4 g1 g2 (ca2 @decide_true @decide_false)
 refine AW.c 2 U4 Tru ?_
 refine AW.q fun K J0=>?_
 refine AW.c 1 U4 Tru ?_
 apply AW.b
 refine AW.r 3 ?_
 refine ARounds.s fun K J1=>?_
 refine AW.q fun K J2=>?_
 refine AW.c 1 U4 Tru ?_
 apply AW.y rfl
 apply AW.z
 apply J2
 refine AW.q fun K J2=>?_
 apply AW.b
 refine AW.d [.rd 0,.val,.ext,.ext,.rd 0,.val,.ext,.ext,.val] fol U4 (ca3 (Jd5 v) Jj5 (Jc6 v)) ?_
 apply AW.y rfl
 refine AW.g U4 Tru ?_
 apply Ja8
 apply J2
 refine AW.g U4 Tru ?_
 apply J1
 refine ARounds.s fun K J1=>?_
 refine AW.q fun K J2=>?_
 refine AW.c 1 U4 Tru ?_
 apply AW.y rfl
 apply AW.z
 apply J2
 refine AW.q fun K J2=>?_
 apply AW.b
 refine AW.d [.rd 0,.val,.ext,.ext,.rd 0,.val,.ext,.ext,.val] fol U4 (ca3 (Jf9 v) Jj5 (Jd5 v)) ?_
 apply AW.y rfl
 refine AW.g U4 Tru ?_
 apply Ja8
 apply J2
 refine AW.g U4 Tru ?_
 apply J1
 refine ARounds.s fun K J1=>?_
 refine AW.q fun K J2=>?_
 refine AW.c 1 U4 Tru ?_
 apply AW.x rfl
 apply AW.v
 apply Jb0
 apply Jb0
 apply Ja6
 apply J0
 refine AW.c 1 U4 Tru ?_
 exact AW.ret (hQ _ _ _ (RetP.z hwf U4))
theorem Qh3 (v:V)(m:Ja1):Ctr Tryz.prog 253 [.agg (c3C v)] m (.one (.int .i64 ((Jh5 v:Int)))) m:=by
 by_cases g1:Jj6 (v 0)<Jj6 (v 1)
 ·by_cases g2:Jj6 (v 1)<Jj6 (v 2)
  ·exact Qu8 v m g1 g2
  exact Qu9 v m g1 g2
 by_cases g2:Jj6 (v 0)<Jj6 (v 2)
 ·exact Qv0 v m g1 g2
 exact Qv1 v m g1 g2
theorem Xo4 (x low wide:Int)(m:Ja1):Ctr Tryz.prog 254 [.one (.int .i64 x),.one (.int .i64 low),.one (.int .i64 wide)] m (.one (.int .i64 (binI x low wide))) m:=by
 refine Ctr.en Tryz.func254 [.tmp 6] 15 fun hwf Q hQ=>?_
 have hv:binI x low wide=minI (Ja3 (Je0 524288 (Jh2 (Jf8 x low) wide)) / 65536) 7:=rfl
 rw [hv] at hQ
 refine AW.c 2 Tru (ca4 Js6 Jr4 Jm7 Vy2) ?_
 exact AW.ret (hQ _ _ _ (RetP.z hwf Tru))
structure IdsAt (m:Ja1)(r v a:Nat)(l:List Nat)(N:Nat):Prop where
 hb:∃ k ez cs,m[r]?=some ⟨k,3,v,ez,cs⟩/\a+l.length<=cs.length/\∀ i,i<l.length->cs[a+i]?=some (.int .i64 ((l.getD i 0:Nat):Int))
 lt:∀ i,i<l.length->l.getD i 0<N
 n:l.length<=128
theorem IdsAt.app {m:Ja1}{r v a:Nat}{l:List Nat}{N:Nat}(h:IdsAt m r v a l N)(L:Ja1):IdsAt (m++L) r v a l N:=⟨by obtain ⟨k,ez,cs,h1,h2⟩:=h.hb;exact ⟨k,ez,cs,Ja5 h1 L,h2⟩,h.lt,h.n⟩
def prF (prs:Nat->PR)(i:Nat):List CV:=prC (prs i)
theorem Va7 (prs:Nat->PR)(i:Nat):prF prs i=[.int .i64 ((prs i).a.lo 0),.int .i64 ((prs i).a.lo 1),.int .i64 ((prs i).a.lo 2),.int .i64 ((prs i).a.hi 0),.int .i64 ((prs i).a.hi 1),.int .i64 ((prs i).a.hi 2),.int .i64 ((prs i).b.lo 0),.int .i64 ((prs i).b.lo 1),.int .i64 ((prs i).b.lo 2),.int .i64 ((prs i).b.hi 0),.int .i64 ((prs i).b.hi 1),.int .i64 ((prs i).b.hi 2)]:=rfl
structure MkAt (m:Ja1)(w:Nat)(c0 c1:CV)(pb pv N mb mv:Nat)(prs:Nat->PR)(mid:Nat->V):Prop where
 hw:m[w]?=some ⟨.fix,314,0,0,[c0,c1,.sl pb pv 0 N,.sl mb mv 0 N]⟩
 hp:∃ k ez,m[pb]?=some ⟨k,234,pv,ez,Jb6 N (prF prs)⟩
 hm:∃ k ez,m[mb]?=some ⟨k,59,mv,ez,Jb6 N (vF mid)⟩
 n:N<=128
theorem MkAt.app {m:Ja1}{w:Nat}{c0 c1:CV}{pb pv N mb mv:Nat}{prs:Nat->PR}{mid:Nat->V}(h:MkAt m w c0 c1 pb pv N mb mv prs mid)(L:Ja1):MkAt (m++L) w c0 c1 pb pv N mb mv prs mid:=⟨Ja5 h.hw L,by obtain ⟨k,e,h1⟩:=h.hp;exact ⟨k,e,Ja5 h1 L⟩,by obtain ⟨k,e,h1⟩:=h.hm;exact ⟨k,e,Ja5 h1 L⟩,h.n⟩
theorem Qg6 (prs:Nat->PR)(l:List Nat){i:Nat}(h:i+1<l.length):Jc3 prs (l.take (i+1+1))=Qc9 (Jc3 prs (l.take (i+1))) (prs (l.getD (i+1) 0)):=by
 match l,h with
 | x::t,h =>
  have h:i<t.length:=by simpa using h
  have e:t.take (i+1)=t.take i++[t.getD i 0]:=by rw [List.take_add_one,List.getD_eq_getElem?_getD,List.getElem?_eq_getElem h];rfl
  show List.foldl _ _ (t.take (i+1))=Qc9 (List.foldl _ _ (t.take i)) (prs (t.getD i 0))
  rw [e,List.foldl_append];rfl
theorem Qi0 (b:BX):-2147483648<=Ky5 b/\Ky5 b<=2147483648:=Jc9 _
theorem Ki8 (w:Nat)(c0 c1:CV)(pb pv N mb mv:Nat)(prs:Nat->PR)(mid:Nat->V)(r v a:Nat)(l:List Nat)(m:Ja1)(hM:MkAt m w c0 c1 pb pv N mb mv prs mid)(hI:IdsAt m r v a l N)(h0:0<l.length):Ctr Tryz.prog 227 [.one (.ptr w 0 0),.one (.sl r v a l.length)] m (.agg (prC (Jc3 prs l))) m:=by
 refine Ctr.en Tryz.func227 [.cell 4 234] 36 fun hwf Q hQ=>?_
 have hw:=hM.hw
 obtain ⟨kp,ep,hp⟩:=hM.hp
 obtain ⟨ki,ei,cs,hb,hcl,hcs⟩:=hI.hb
 have lw:=Jb2 hw
 have lp:=Jb2 hp
 have lb:=Jb2 hb
 have hn:=hI.n
 have hN:=hM.n
 have pl:(Jb6 N (prF prs)).length=N*12:=Ja9 (w:=12) (F:=prF prs) (fun _=>rfl) _
 have z1:cs[a]?=some (.int .i64 ((l.getD 0 0:Nat):Int)):=hcs 0 h0
 have y0:l.getD 0 0<N:=hI.lt 0 h0
 obtain ⟨x0,hx0⟩:∃ x,x=l.getD 0 0:=⟨_,rfl⟩
 rw [<-hx0] at z1 y0
 have y1:(0:Int)<=(x0:Int):=by omega
 have y2:(x0:Int)<(N:Int):=by omega
 have y3:x0*12+12<=N*12:=by omega
 have ga0:=Jc0 (w:=12) (F:=prF prs) (fun _=>rfl) y0
 have gx0:=Va7 prs x0
 have n1:1<=l.length:=h0
 have n2:(0:Int)<(l.length:Int):=by omega
 have n3:(1:Int)<=(l.length:Int):=by omega
 have n4:(l.length:Int)<=(l.length:Int):=Int.le_refl _
 have ha1:Jc3 prs (l.take (0+1))=prs x0:=by
   match l,h0,hx0 with
   | x::t,_,e=>subst e;rfl
 have hlt0:∀ k,¬m.length+k<m.length:=fun k=>by omega
 have U5:=ca4 hw (Ja5 hw) hp (ca4 (Ja5 hp) hb (Ja5 hb) (ca4 pl z1 y1 (ca4 y2 y3 ga0 (ca4 gx0 n1 n2 (ca2 n3 n4)))))
 refine AW.c 1 U5 Tru ?_
 refine AW.d [.val,.val,.val,.rd 0,.val,.val,.rd 0,.val,.rd 0,.ext,.wr] fol U5 Tru ?_
 refine AW.q fun K J0=>?_
 refine AW.c 1 U5 Tru ?_
 apply AW.b
 refine AW.loopK [0,4,5,18,19] (fun i=>i+1<=l.length) (fun i=>[(20,.one (.int .i64 (i:Int)))]) (fun i=>[(m.length+1,⟨.fix,234,0,0,prC (Jc3 prs (l.take (i+1)))⟩)]) (fun i=>l.length - i) 0 (by omega) ?_ ?_ fun i hi2=>?_
 · first|rfl|(simp only [KS,simprocAttr,Int.natCast_zero,ha1,prC,bxC,c3C]<;>repeat' (first|rfl|apply And.intro))
 · first|rfl|(simp only [Ja2,push_cast,simprocAttr,U5,Int.natCast_zero,ha1,prC,bxC,c3C]<;>rfl)
 try simp only [Jb1,Ja2,push_cast,simprocAttr,U5]
 refine AW.c 1 U5 Tru ?_
 refine AW.q fun K J1=>?_
 refine AW.cond rfl (fun h21=>?_) (fun h21=>?_)
 ·have hlt:i+1<l.length:=by have:=of_decide_eq_true h21;omega
  have hcx:cs[a+(1+i)]?=some (.int .i64 ((l.getD (i+1) 0:Nat):Int)):=by rw [show 1+i=i+1 by omega];exact hcs (i+1) hlt
  have hcy:cs[a+(i+1)]?=some (.int .i64 ((l.getD (i+1) 0:Nat):Int)):=hcs (i+1) hlt
  have hstep:=Qg6 prs l hlt
  have x1:l.getD (i+1) 0<N:=hI.lt _ hlt
  obtain ⟨x,hx⟩:∃ x,x=l.getD (i+1) 0:=⟨_,rfl⟩
  rw [<-hx] at hcx hcy x1 hstep
  obtain ⟨Z,hZ⟩:∃ Z,Z=Jc3 prs (l.take (i+1)):=⟨_,rfl⟩
  rw [<-hZ] at hstep
  have x2:(0:Int)<=(x:Int):=by omega
  have x3:(x:Int)<(N:Int):=by omega
  have x4:x*12+12<=N*12:=by omega
  have gax:=Jc0 (w:=12) (F:=prF prs) (fun _=>rfl) x1
  have gxx:=Va7 prs x
  have c1:(0:Int)<=(i:Int):=by omega
  have c2:(i:Int)<((l.length - 1:Nat):Int):=by omega
  have c4:(i:Int)<(l.length:Int) - 1:=by omega
  have c5:i<l.length - 1:=by omega
  apply AW.z
  apply J1
  refine AW.q fun K J1=>?_
  apply AW.b
  have U6:=ca4 U5 hcx hcy (ca4 x2 x3 x4 (ca4 gax gxx c1 (ca4 c2 c4 c5 (ca4 @Kg9 @Je8 @Ja4 hZ.symm))))
  refine AW.c 1 U6 Tru ?_
  refine AW.draw [.rd 0,.val,.val,.val,.rd 0,.val,.val,.rd 0,.ext,.ext,.wr] fol (by decide) (by kernel_rfl) ?_
  simp only [push_cast,simprocAttr,U6]
  refine DExt.by (by first|rfl|exact (List.append_nil _).symm|(simp only [List.append_assoc,List.cons_append,List.nil_append];rfl)) ?_
  simp only [push_cast,simprocAttr,U6]
  refine DCall.z (Xw6 Z (prs x) _ 0 _ ⟨.grow,12,by simp only [push_cast,simprocAttr];rfl⟩) ?_
  simp only [push_cast,simprocAttr,U6]
  apply Ja8
  apply J1
  refine AW.g U6 Tru ?_
  apply Jc2
  have hwi:IntKind.i64.wrap ((i:Int)+1)=(i:Int)+1:=wi (by omega)
  refine ⟨i+1,by omega,by omega,?_⟩
  try simp only [Jb1,Ja2,push_cast,simprocAttr,U6,hwi,hstep]
  exact Weak.to (extra:=_) (by simp only [KS,simprocAttr,hwi,hstep]) (by first|rfl|(simp only [List.append_assoc,List.cons_append,List.nil_append];rfl)) (by first|rfl|(simp [AV.below,CV.below];done)|(simp [AV.below,CV.below];omega)) (by
    first|exact hwf|refine MWf.app (hwf.grow (by simp)) ?_
    repeat (first|exact Jb7|(refine Ja0 ?_ ?_;· first|rfl|(simp [CV.below];done)|(simp [CV.below];omega))))
 have hin:i+1=l.length:=by have:=of_decide_eq_false h21;omega
 have hfin:Jc3 prs (l.take (i+1))=Jc3 prs l:=by rw [hin,List.take_length]
 rw [hfin]
 apply AW.v
 apply Jb0
 apply Jb0
 apply Ja6
 apply J0
 have U7:=ca4 U5 @Kg9 @Je8 @Ja4
 refine AW.c 1 U7 Tru ?_
 exact AW.ret (hQ _ _ _ (RetP.z hwf Tru))
theorem Qw6 (w:Nat)(c0 c1:CV)(pb pv N mb mv:Nat)(prs:Nat->PR)(mid:Nat->V)(r v a:Nat)(l:List Nat)(m:Ja1)(hM:MkAt m w c0 c1 pb pv N mb mv prs mid)(hI:IdsAt m r v a l N)(h0:0<l.length):Ctr Tryz.prog 255 [.one (.ptr w 0 0),.one (.sl r v a l.length)] m (.one (.int .i64 (Jp4 prs l))) m:=by
 refine Ctr.en Tryz.func255 [.tmp 4] 13 fun hwf Q hQ=>?_
 have hv:Jp4 prs l=(l.length:Int)*Ky5 (Jq3 (Jc3 prs l)):=rfl
 rw [hv] at hQ
 have hn:=hI.n
 have hsb:=Qi0 (Jq3 (Jc3 prs l))
 have hwr:IntKind.i64.wrap ((l.length:Int)*Ky5 (Jq3 (Jc3 prs l)))=(l.length:Int)*Ky5 (Jq3 (Jc3 prs l)):=wi (by have q1:=Int.mul_le_mul_of_nonneg_left hsb.1 (show 0<=(l.length:Int) by omega);have q2:=Int.mul_le_mul_of_nonneg_left hsb.2 (show 0<=(l.length:Int) by omega);omega)
 refine AW.c 2 hwr (ca3 (Ki8 w c0 c1 pb pv N mb mv prs mid r v a l _ hM hI h0) (Qj6 (Jc3 prs l)) (Xo9 (Jq3 (Jc3 prs l)))) ?_
 exact AW.ret (hQ _ _ _ (RetP.z hwf hwr))
def iC (l:List Nat):List CV:=l.map fun (i:Nat)=>CV.int .i64 (i:Int)
theorem Jg8 (l:List Nat):(iC l).length=l.length:=List.length_map _
theorem Jx6 (l:List Nat)(x:Nat):iC l++[.int .i64 (x:Int)]=iC (l++[x]):=by unfold iC;rw [List.map_append];rfl
theorem Ks2 (a b:List Nat):iC a++iC b=iC (a++b):=by unfold iC;rw [List.map_append]
theorem Kn5 {l:List Nat}{i:Nat}(h:i<l.length):(iC l)[i]?=some (.int .i64 ((l.getD i 0:Nat):Int)):=by
 unfold iC;rw [List.getElem?_map,List.getD_eq_getElem?_getD,List.getElem?_eq_getElem h];rfl
theorem Qk9 (l:List Nat):(iC l).all CV.isVal=true:=by unfold iC;rw [List.all_map];exact List.all_eq_true.2 fun _ _=>rfl
theorem Jg9 (l:List Nat)(n:Nat):(iC l).all (CV.below n)=true:=by unfold iC;rw [List.all_map];exact List.all_eq_true.2 fun _ _=>rfl
theorem Jw9 {o:List Nat}{a b i:Nat}(h:a+i<b):(Jk8 o a b).getD i 0=o.getD (a+i) 0:=by
 rw [List.getD_eq_getElem?_getD,List.getD_eq_getElem?_getD]
 have:=Kb7 (o:=o) (a:=a) (b:=b) (x:=a+i) (by omega) h
 rw [Nat.add_sub_cancel_left] at this;rw [this]
theorem Kt2 {m:Ja1}{r v N:Nat}{o:List Nat}{a b:Nat}(hb:∃ k ez,m[r]?=some ⟨k,3,v,ez,iC o⟩)(h1:a<=b)(h2:b<=o.length)(ho:∀ x,x<o.length->o.getD x 0<N)(hn:o.length<=128):IdsAt m r v a (Jk8 o a b) N where
 hb:=by
  obtain ⟨k,ez,h⟩:=hb
  have e:=Jf6 (a:=a) h2
  refine ⟨k,ez,iC o,h,by rw [Jg8];omega,fun i hi=>?_⟩
  rw [Jw9 (by omega),Kn5 (by omega)]
 lt:=fun i hi=>by rw [Jw9 (by rw [Jf6 h2] at hi;omega)];exact ho _ (by rw [Jf6 h2] at hi;omega)
 n:=by rw [Jf6 h2];omega
theorem Qm9 {m:Ja1}{r v N:Nat}{l:List Nat}(hb:∃ k ez,m[r]?=some ⟨k,3,v,ez,iC l⟩)(hl:∀ x,x<l.length->l.getD x 0<N)(hn:l.length<=128):IdsAt m r v 0 l N where
 hb:=by
  obtain ⟨k,ez,h⟩:=hb
  refine ⟨k,ez,iC l,h,by rw [Jg8];omega,fun i hi=>?_⟩
  rw [Nat.zero_add,Kn5 hi]
 lt:=hl
 n:=hn
theorem Vp9 (mid:Nat->V){l:List Nat}(h:0<l.length):Vw3 (mid (l.getD 0 0)) (fun j=>mid (l.getD (1+j) 0)) (l.length - 1)=Kd1 mid l:=by
 match l,h with
 | x::t,_ =>
  show Vw3 (mid x) (fun j=>mid ((x::t).getD (1+j) 0)) t.length=List.foldl (fun a j=>fun k=>minI (a k) (mid j k)) (mid x) t
  have e:(fun j=>mid ((x::t).getD (1+j) 0))=fun j=>mid (t.getD j 0):=by funext j;rw [show 1+j=j+1 by omega];rfl
  rw [e]
  have g:∀ i,i<=t.length->Vw3 (mid x) (fun j=>mid (t.getD j 0)) i=List.foldl (fun a j=>fun k=>minI (a k) (mid j k)) (mid x) (t.take i):=by
   intro i
   induction i with
   | zero=>intro _;rfl
   | succ i ih =>
    intro hi
    have et:t.take (i+1)=t.take i++[t.getD i 0]:=by rw [List.take_add_one,List.getD_eq_getElem?_getD,List.getElem?_eq_getElem (show i<t.length by omega)];rfl
    rw [et,List.foldl_append,<-ih (by omega)];rfl
  rw [g _ (Nat.le_refl _),List.take_length]
theorem Xf9 (mid:Nat->V){l:List Nat}(h:0<l.length):Vw5 (mid (l.getD 0 0)) (fun j=>mid (l.getD (1+j) 0)) (l.length - 1)=Vc9 mid l:=by
 match l,h with
 | x::t,_ =>
  show Vw5 (mid x) (fun j=>mid ((x::t).getD (1+j) 0)) t.length=List.foldl (fun a j=>fun k=>maxI (a k) (mid j k)) (mid x) t
  have e:(fun j=>mid ((x::t).getD (1+j) 0))=fun j=>mid (t.getD j 0):=by funext j;rw [show 1+j=j+1 by omega];rfl
  rw [e]
  have g:∀ i,i<=t.length->Vw5 (mid x) (fun j=>mid (t.getD j 0)) i=List.foldl (fun a j=>fun k=>maxI (a k) (mid j k)) (mid x) (t.take i):=by
   intro i
   induction i with
   | zero=>intro _;rfl
   | succ i ih =>
    intro hi
    have et:t.take (i+1)=t.take i++[t.getD i 0]:=by rw [List.take_add_one,List.getD_eq_getElem?_getD,List.getElem?_eq_getElem (show i<t.length by omega)];rfl
    rw [et,List.foldl_append,<-ih (by omega)];rfl
  rw [g _ (Nat.le_refl _),List.take_length]
def lfN (mid:Nat->V)(l:List Nat)(c i:Nat):List Nat:=(l.take i).filter (Qb5 mid l c)
def rgN (mid:Nat->V)(l:List Nat)(c i:Nat):List Nat:=(l.take i).filter fun x=>!Qb5 mid l c x
theorem Ky0 {l:List Nat}{i:Nat}(h:i<l.length):l.take (i+1)=l.take i++[l.getD i 0]:=by rw [List.take_add_one,List.getD_eq_getElem?_getD,List.getElem?_eq_getElem h];rfl
theorem lf_t {mid:Nat->V}{l:List Nat}{c i:Nat}(h:i<l.length)(g:Qb5 mid l c (l.getD i 0)=true):lfN mid l c (i+1)=lfN mid l c i++[l.getD i 0]/\rgN mid l c (i+1)=rgN mid l c i:=by
 unfold lfN rgN
 rw [Ky0 h,List.filter_append,List.filter_append]
 generalize l.getD i 0=x at g ⊢
 simp [g]
theorem lf_f {mid:Nat->V}{l:List Nat}{c i:Nat}(h:i<l.length)(g:Qb5 mid l c (l.getD i 0)=false):lfN mid l c (i+1)=lfN mid l c i/\rgN mid l c (i+1)=rgN mid l c i++[l.getD i 0]:=by
 unfold lfN rgN
 rw [Ky0 h,List.filter_append,List.filter_append]
 generalize l.getD i 0=x at g ⊢
 simp [g]
theorem Vw7 (mid:Nat->V)(l:List Nat)(c:Nat):lfN mid l c l.length=Jf0 mid l c/\rgN mid l c l.length=Jd7 mid l c:=by
 unfold lfN rgN;rw [List.take_length];exact ⟨rfl,rfl⟩
theorem Vp6 (mid:Nat->V)(l:List Nat)(c i:Nat):(lfN mid l c i).length<=l.length/\(rgN mid l c i).length<=l.length :=
 ⟨Nat.le_trans (List.length_filter_le _ _) (by rw [List.length_take];omega),Nat.le_trans (List.length_filter_le _ _) (by rw [List.length_take];omega)⟩
theorem Vq8 {l:List Nat}{i:Nat}(h:i<l.length):l.getD i 0 ∈ l:=by rw [List.getD_eq_getElem?_getD,List.getElem?_eq_getElem h];exact List.getElem_mem h
theorem Qb0 {l:List Nat}{N:Nat}{p:Nat->Bool}(h:∀ i,i<l.length->l.getD i 0<N):∀ i,i<(l.filter p).length->(l.filter p).getD i 0<N:=fun i hi=>by
 have h1:=(List.mem_filter.1 (Vq8 hi)).1
 obtain ⟨k,hk,e⟩:=List.getElem_of_mem h1
 have:=h k hk
 rw [List.getD_eq_getElem?_getD,List.getElem?_eq_getElem hk] at this
 rw [<-e];exact this
def BstAt (M:Ja1):Option (List Nat × Nat × Int)->CV->Int->Int->Prop
 | none,x,k,y=>x=.nils/\k=0/\y=0
 | some (b,n,c),x,k,y=>0<b.length/\b.length<=128/\k=(n:Int)/\y=c/\∃ rb vb kk ez,x=.sl rb vb 0 b.length/\M[rb]?=some ⟨kk,3,vb,ez,iC b⟩
structure SpQ where
 (c:Nat) (x:CV) (k y:Int) (M:Ja1)
structure SpI (m1:Ja1)(st:Nat->Option (List Nat × Nat × Int))(q:SpQ):Prop where
 c1:1<=q.c
 c8:q.c<=8
 hM:∃ L,q.M=m1++L
 wf:MWf q.M.length q.M
 hb:BstAt q.M (st (q.c - 1)) q.x q.k q.y
theorem BstAt.bel {M:Ja1}{b:Option (List Nat × Nat × Int)}{x:CV}{k y:Int}(h:BstAt M b x k y):∀ n,M.length<=n->CV.below n x=true:=fun n hn=>by
 match b,h with
 | none,h=>rw [h.1];rfl
 | some (b,n',c),h =>
  obtain ⟨h1,h2,h3,h4,rb,vb,kk,ez,h5,h6⟩:=h
  have:=Jb2 h6
  rw [h5];simp [CV.below];omega
theorem BstAt.app {M:Ja1}{b:Option (List Nat × Nat × Int)}{x:CV}{k y:Int}(h:BstAt M b x k y)(L:Ja1):BstAt (M++L) b x k y:=by
 match b,h with
 | none,h=>exact h
 | some (b,n,c),h =>
  obtain ⟨h1,h2,h3,h4,rb,vb,kk,ez,h5,h6⟩:=h
  exact ⟨h1,h2,h3,h4,rb,vb,kk,ez,h5,Ja5 h6 L⟩
theorem Xr7 (mid:Nat->V)(l:List Nat)(r v:Nat)(m:Ja1)(h0:0<l.length)(hn:l.length<=128)(hb:∃ k ez,m[r]?=some ⟨k,59,v,ez,Jb6 l.length (vF fun j=>mid (l.getD j 0))⟩):Ctr Tryz.prog 193 [.agg (c3C (mid (l.getD 0 0))),.one (.sl r v 3 (l.length - 1))] m (.agg (bxC (⟨Kd1 mid l,Vc9 mid l⟩))) m:=by
 have h:=Xk2 (mid (l.getD 0 0)) (fun j=>mid (l.getD j 0)) r v 1 (l.length - 1) l.length m hb (by omega) (by omega)
 rw [Vp9 mid h0,Xf9 mid h0] at h
 exact h
theorem Qx2 (mid:Nat->V)(l:List Nat)(m:Ja1):Ctr Tryz.prog 252 [.agg (bxC (⟨Kd1 mid l,Vc9 mid l⟩))] m (.agg (c3C (Jr1 mid l))) m:=Vg1 ⟨Kd1 mid l,Vc9 mid l⟩ m
theorem Vj5 (w:Nat)(c0 c1:CV)(pb pv N mb mv:Nat)(prs:Nat->PR)(mid:Nat->V)(r v a b ez:Nat)(o l:List Nat)(m:Ja1)(hM:MkAt m w c0 c1 pb pv N mb mv prs mid)(hb:m[r]?=some ⟨.grow,3,v,ez,iC o⟩)(hab:a<b)(hbo:b<=o.length)(ho:∀ x,x<o.length->o.getD x 0<N)(hol:o.length<=128)(hl:Jk8 o a b=l)(hwd:Jr1 mid l (Jh5 (Jr1 mid l))<=0):Ctr Tryz.prog 228 [.one (.ptr w 0 0),.one (.sl r v a l.length)] m (.one (.int .i64 ((l.length / 2:Nat):Int))) m:=by
 refine Ctr.en Tryz.func228 [.tmp 4] 131 fun hwf Q hQ=>?_
 have hw:=hM.hw
 obtain ⟨kmi,emi,hmi⟩:=hM.hm
 have hN:=hM.n
 have hI:IdsAt m r v a l N:=by rw [<-hl];exact Kt2 ⟨_,_,hb⟩ (by omega) hbo ho hol
 have hn:=hI.n
 have h0:0<l.length:=by rw [<-hl,Jf6 hbo];omega
 have hcs:∀ i,i<l.length->(iC o)[a+i]?=some (.int .i64 ((l.getD i 0:Nat):Int)):=fun i hi=>by
   have e:=Jf6 (a:=a) hbo
   rw [hl] at e
   rw [Kn5 (by omega),<-hl,Jw9 (by omega)]
 have hcl:a+l.length<=(iC o).length:=by rw [Jg8,<-hl,Jf6 hbo];omega
 have lw:=Jb2 hw
 have lm:=Jb2 hmi
 have lb:=Jb2 hb
 have ml:(Jb6 N (vF mid)).length=N*3:=Ja9 (w:=3) (F:=vF mid) (fun _=>rfl) _
 have pl:(Jb6 l.length (vF fun j=>mid (l.getD j 0))).length=l.length*3:=Ja9 (w:=3) (F:=vF fun j=>mid (l.getD j 0)) (fun _=>rfl) _
 have ga0:List.take 3 (Jb6 l.length (vF fun j=>mid (l.getD j 0)))=[.int .i64 (mid (l.getD 0 0) 0),.int .i64 (mid (l.getD 0 0) 1),.int .i64 (mid (l.getD 0 0) 2)]:=Jc0 (w:=3) (F:=vF fun j=>mid (l.getD j 0)) (fun _=>rfl) h0
 have n1:(1:Int)<=(l.length:Int):=by omega
 have n2:(0:Int)<(l.length:Int):=by omega
 have n4:(l.length:Int)<=(l.length:Int):=Int.le_refl _
 have n5:3<=l.length*3:=by omega
 have hd2:(l.length:Int).tdiv 2=((l.length / 2:Nat):Int):=by rw [Int.tdiv_eq_ediv_of_nonneg (by omega)];omega
 have hw2:IntKind.i64.wrap ((l.length / 2:Nat):Int)=((l.length / 2:Nat):Int):=wi (by omega)
 have hw3:IntKind.i64.wrap ((l.length:Int) / 2)=((l.length / 2:Nat):Int):=by rw [show (l.length:Int) / 2=((l.length / 2:Nat):Int) by omega];exact hw2
 have hlt0:∀ k,¬m.length+k<m.length:=fun k=>by omega
 have U1:=ca4 hw (Ja5 hw) hmi (ca4 (Ja5 hmi) hb (Ja5 hb) (ca4 ml pl ga0 (ca4 n1 n2 n4 (ca4 n5 @Je8 @Ja4 (ca4 hd2 hw2 hw3 hwd)))))
 refine AW.c 2 U1 Tru ?_
 refine AW.q fun K J0=>?_
 refine AW.c 1 U1 Tru ?_
 apply AW.b
 refine AW.nilTm 59 3 5 rfl ?_
 try simp only [push_cast,simprocAttr,U1]
 refine AW.loopK [0,1,22,23] (fun i=>i<=l.length) (fun i=>[(5,.one (.sl m.length i 0 i)),(24,.one (.int .i64 (i:Int)))]) (fun i=>[(m.length,⟨.grow,59,i,3,Jb6 i (vF fun j=>mid (l.getD j 0))⟩)]) (fun i=>l.length - i) 0 (by omega) ?_ ?_ fun i hi2=>?_
 · first|rfl|(simp only [KS,simprocAttr,Jb6,Int.natCast_zero]<;>repeat' (first|rfl|apply And.intro))
 · (simp only [Ja2,push_cast,simprocAttr,Jb6])<;>rfl
 try simp only [Jb1,Ja2,push_cast,simprocAttr,U1]
 refine AW.c 1 U1 Tru ?_
 refine AW.q fun K J1=>?_
 refine AW.cond rfl (fun h25=>?_) (fun h25=>?_)
 ·have hlt:i<l.length:=by have:=of_decide_eq_true h25;omega
  have c1:(0:Int)<=(i:Int):=by omega
  have c2:(i:Int)<(l.length:Int):=by omega
  have hcx:=hcs i hlt
  have x1:l.getD i 0<N:=hI.lt _ hlt
  obtain ⟨x9,hx9⟩:∃ x,x=l.getD i 0:=⟨_,rfl⟩
  rw [<-hx9] at hcx x1
  have x2:(0:Int)<=(x9:Int):=by omega
  have x3:(x9:Int)<(N:Int):=by omega
  have x4:x9*3+3<=N*3:=by omega
  have gax:=Jc0 (w:=3) (F:=vF mid) (fun _=>rfl) x1
  have gxx:=Qv8 mid x9
  have c3:a+i+1<=(iC o).length:=by omega
  have c1:(0:Int)<=(i:Int):=by omega
  have c2:(i:Int)<(l.length:Int):=by omega
  have q1:i<=140737488355327:=by omega
  have q2:(i+1)*24<=140737488355328:=by omega
  have gli:(Jb6 i (vF fun j=>mid (l.getD j 0))).length=i*3:=Ja9 (w:=3) (F:=vF fun j=>mid (l.getD j 0)) (fun _=>rfl) i
  have hap:Jb6 i (vF fun j=>mid (l.getD j 0))++[.int .i64 (mid x9 0),.int .i64 (mid x9 1),.int .i64 (mid x9 2)]=Jb6 (i+1) (vF fun j=>mid (l.getD j 0)):=by rw [hx9];rfl
  apply AW.z
  apply J1
  refine AW.q fun K J1=>?_
  apply AW.b
  have U2:=ca4 U1 hcx x2 (ca4 x3 x4 gax (ca4 gxx c1 c2 (ca4 c3 q1 q2 (ca2 gli hlt))))
  refine AW.c 1 U2 Tru ?_
  refine AW.g U2 Tru ?_
  apply Ja8
  apply J1
  refine AW.g U2 Tru ?_
  apply Jc2
  have hwi:IntKind.i64.wrap ((i:Int)+1)=(i:Int)+1:=wi (by omega)
  refine ⟨i+1,by omega,by omega,?_⟩
  try simp only [Jb1,Ja2,push_cast,simprocAttr,U2,hwi,hap]
  exact Weak.to (extra:=_) (by simp only [KS,simprocAttr,hwi,hap]) (by first|rfl|(simp only [List.append_assoc,List.cons_append,List.nil_append];rfl)) (by first|rfl|(simp [AV.below,CV.below];done)|(simp [AV.below,CV.below];omega)) (by exact MWf.app (hwf.grow (by simp)) (Ja0 (Jc1 _ (fun _=>rfl) _) Jb7))
 have hin:i=l.length:=by have:=of_decide_eq_false h25;omega
 rw [hin]
 apply AW.v
 apply Jb0
 apply Jb0
 apply Ja6
 apply J0
 refine AW.q fun K J0=>?_
 refine AW.draw [.val,.val,.rd 0,.val,.val,.ext,.fl,.wr] fol (by decide) (by kernel_rfl) ?_
 simp only [push_cast,simprocAttr,U1]
 refine DCall.z (Xr7 mid l m.length l.length _ h0 hn ⟨.grow,3,by rw [Jn4];rfl⟩) ?_
 simp only [push_cast,simprocAttr,U1]
 apply J0
 refine AW.c 2 U1 (ca2 (Qx2 mid l) (Qh3 (Jr1 mid l))) ?_
 refine AW.d [.val,.rd 0,.val,.ext,.rd 0,.val,.ext,.val,.val] fol U1 (ca2 (Qv6 (Kd1 mid l) (Jh5 (Jr1 mid l)) (Jw7 _)) (Qv6 (Jr1 mid l) (Jh5 (Jr1 mid l)) (Jw7 _))) ?_
 refine AW.q fun K J0=>?_
 refine AW.c 1 U1 Tru ?_
 apply AW.y rfl
 refine AW.c 1 U1 Tru ?_
 exact AW.ret (hQ _ _ _ (RetP.z hwf U1))
theorem Qc8 {M:Ja1}{st:Option (List Nat × Nat × Int)}{x:CV}{k y:Int}(h:BstAt M st x k y)(D:Int) :
  (st=none/\x=.nils/\k=0/\y=0) \/
  (∃ (bb:List Nat) (bn:Nat) (bc:Int) (rb vb:Nat) (kk:BK) (ez:Nat),st=some (bb,bn,bc)/\x=.sl rb vb 0 bb.length/\0<bb.length/\bb.length<=128/\k=(bn:Int)/\y=bc/\M[rb]?=some ⟨kk,3,vb,ez,iC bb⟩/\D<bc) \/
  (∃ (bb:List Nat) (bn:Nat) (bc:Int) (rb vb:Nat) (kk:BK) (ez:Nat),st=some (bb,bn,bc)/\x=.sl rb vb 0 bb.length/\0<bb.length/\bb.length<=128/\k=(bn:Int)/\y=bc/\M[rb]?=some ⟨kk,3,vb,ez,iC bb⟩/\¬D<bc):=by
 match st,h with
 | none,h=>exact .inl ⟨rfl,h⟩
 | some (bb,bn,bc),h =>
  obtain ⟨h1,h2,h3,h4,rb,vb,kk,ez,h5,h6⟩:=h
  by_cases g:D<bc
  ·exact .inr (.inl ⟨bb,bn,bc,rb,vb,kk,ez,rfl,h5,h1,h2,h3,h4,h6,g⟩)
  exact .inr (.inr ⟨bb,bn,bc,rb,vb,kk,ez,rfl,h5,h1,h2,h3,h4,h6,g⟩)
theorem Vf6 (prs:Nat->PR)(mid:Nat->V)(l:List Nat){c:Nat}(h:1<=c):Jq0 prs mid l c=Vt1 prs mid l c (Jq0 prs mid l (c - 1)):=by
 obtain ⟨d,rfl⟩:∃ d,c=d+1:=⟨c - 1,by omega⟩
 rfl
theorem SpI.stay {m1:Ja1}{prs:Nat->PR}{mid:Nat->V}{l:List Nat}{c:Nat}{x:CV}{k y:Int}{M:Ja1}(h:SpI m1 (Jq0 prs mid l) ⟨c,x,k,y,M⟩)(h8:c<8)(e:Jq0 prs mid l c=Jq0 prs mid l (c - 1))(v1 e1:Nat)(A:List Nat)(v2 e2:Nat)(B:List Nat):SpI m1 (Jq0 prs mid l) ⟨c+1,x,k,y,M++[⟨.grow,3,v1,e1,iC A⟩,⟨.grow,3,v2,e2,iC B⟩]⟩ where
 c1:=by show 1<=c+1;omega
 c8:=by show c+1<=8;omega
 hM:=by obtain ⟨L0,h0⟩:=h.hM;dsimp only at h0;exact ⟨L0++_,by show M++_=_;rw [h0,List.append_assoc]⟩
 wf:=MWf.app (h.wf.grow (by simp)) (Ja0 (Jg9 _ _) (Ja0 (Jg9 _ _) Jb7))
 hb:=by
  show BstAt (M++_) (Jq0 prs mid l (c+1 - 1)) x k y
  rw [Nat.add_sub_cancel,e];exact h.hb.app _
theorem SpI.best {m1:Ja1}{prs:Nat->PR}{mid:Nat->V}{l:List Nat}{c:Nat}{x:CV}{k y:Int}{M:Ja1}(h:SpI m1 (Jq0 prs mid l) ⟨c,x,k,y,M⟩)(h8:c<8)(hn:l.length<=128)(h0:0<(Jf0 mid l c).length)
  (e:Jq0 prs mid l c=some (Jf0 mid l c++Jd7 mid l c,(Jf0 mid l c).length,Jp4 prs (Jf0 mid l c)+Jp4 prs (Jd7 mid l c))) (vb ez v2 e2:Nat) (B:List Nat):SpI m1 (Jq0 prs mid l) ⟨c+1,.sl M.length vb 0 ((Jf0 mid l c).length+(Jd7 mid l c).length),((Jf0 mid l c).length:Int),Jp4 prs (Jf0 mid l c)+Jp4 prs (Jd7 mid l c),M++[⟨.grow,3,vb,ez,iC (Jf0 mid l c)++iC (Jd7 mid l c)⟩,⟨.grow,3,v2,e2,iC B⟩]⟩ where
 c1:=by show 1<=c+1;omega
 c8:=by show c+1<=8;omega
 hM:=by obtain ⟨L0,h0⟩:=h.hM;dsimp only at h0;exact ⟨L0++_,by show M++_=_;rw [h0,List.append_assoc]⟩
 wf:=MWf.app (h.wf.grow (by simp)) (Ja0 (by show (iC _++iC _).all _=true;rw [Ks2];exact Jg9 _ _) (Ja0 (Jg9 _ _) Jb7))
 hb:=by
  show BstAt _ (Jq0 prs mid l (c+1 - 1)) _ _ _
  rw [Nat.add_sub_cancel,e]
  have hp:(Jf0 mid l c++Jd7 mid l c).Perm l:=List.filter_append_perm _ _
  have hq:=hp.length_eq
  refine ⟨by rw [List.length_append];omega,by omega,rfl,rfl,M.length,vb,.grow,ez,by rw [List.length_append],?_⟩
  rw [Jn4,Ks2];rfl
theorem Js4 {L:Nat}{m:Ja1}{r:Nat}{b:Blk}(h:MWf L m)(hb:b.cells.all (CV.below L)=true)(hk:b.kind.below L=true):MWf L (m.set r b):=fun c hc=>by
 rcases List.mem_or_eq_of_mem_set hc with h1|h1
 ·exact h c h1
 rw [h1];exact Kp2 hk hb
theorem Kk9 {o:List Nat}{a b:Nat}(h1:a<b)(h2:b<=o.length):Jw3 o a b (Jk8 o a b)=o:=by
 unfold Jw3 Jk8
 rw [show o.drop b=(o.drop a).drop (b - a) by rw [List.drop_drop];congr 1;omega,List.take_append_drop,List.take_append_drop]
theorem set_self {m:Ja1}{r:Nat}{b:Blk}(h:m[r]?=some b):m.set r b=m:=by
 apply List.ext_getElem?
 intro i
 by_cases e:r=i
 ·subst e;rw [List.getElem?_set_self (Jb2 h),h]
 rw [List.getElem?_set_ne e]
theorem Qx5 {o l:List Nat}{a b:Nat}(h1:a<b)(h2:b<=o.length)(hl:l.length=b - a):setL (iC o) a (iC l)=iC (Jw3 o a b l):=by
 have e0:o=o.take a++(Jk8 o a b++o.drop b):=(Kk9 h1 h2).symm
 have e:iC o=iC (o.take a)++(iC (Jk8 o a b)++iC (o.drop b)):=by rw [Ks2,Ks2,<-e0]
 have h:=Qx7 (iC l) (iC (Jk8 o a b)) (iC (o.drop b)) (by rw [Jg8,Jg8,Jf6 h2,hl]) (iC (o.take a))
 rw [Jg8,List.length_take,Nat.min_eq_left (by omega)] at h
 rw [e,h,Ks2,Ks2];rfl
theorem Vj4 (w:Nat)(c0 c1:CV)(pb pv N mb mv:Nat)(prs:Nat->PR)(mid:Nat->V)(r v a b ez:Nat)(o l:List Nat)(m:Ja1)(hM:MkAt m w c0 c1 pb pv N mb mv prs mid)(hb:m[r]?=some ⟨.grow,3,v,ez,iC o⟩)(hab:a<b)(hbo:b<=o.length)(ho:∀ x,x<o.length->o.getD x 0<N)(hol:o.length<=128)(hl:Jk8 o a b=l)(hwd:¬Jr1 mid l (Jh5 (Jr1 mid l))<=0):Ctr Tryz.prog 228 [.one (.ptr w 0 0),.one (.sl r v a l.length)] m (.one (.int .i64 (((Jm2 prs mid l).2:Nat):Int))) (m.set r ⟨.grow,3,v,ez,iC (Jw3 o a b (Jm2 prs mid l).1)⟩):=by
 refine Ctr.en Tryz.func228 [.tmp 4] 131 fun hwf Q hQ=>?_
 have hw:=hM.hw
 obtain ⟨kmi,emi,hmi⟩:=hM.hm
 have hN:=hM.n
 have hI:IdsAt m r v a l N:=by rw [<-hl];exact Kt2 ⟨_,_,hb⟩ (by omega) hbo ho hol
 have hn:=hI.n
 have h0:0<l.length:=by rw [<-hl,Jf6 hbo];omega
 have hcs:∀ i,i<l.length->(iC o)[a+i]?=some (.int .i64 ((l.getD i 0:Nat):Int)):=fun i hi=>by
   have e:=Jf6 (a:=a) hbo
   rw [hl] at e
   rw [Kn5 (by omega),<-hl,Jw9 (by omega)]
 have hcl:a+l.length<=(iC o).length:=by rw [Jg8,<-hl,Jf6 hbo];omega
 have lw:=Jb2 hw
 have lm:=Jb2 hmi
 have lb:=Jb2 hb
 have ml:(Jb6 N (vF mid)).length=N*3:=Ja9 (w:=3) (F:=vF mid) (fun _=>rfl) _
 have pl:(Jb6 l.length (vF fun j=>mid (l.getD j 0))).length=l.length*3:=Ja9 (w:=3) (F:=vF fun j=>mid (l.getD j 0)) (fun _=>rfl) _
 have ga0:List.take 3 (Jb6 l.length (vF fun j=>mid (l.getD j 0)))=[.int .i64 (mid (l.getD 0 0) 0),.int .i64 (mid (l.getD 0 0) 1),.int .i64 (mid (l.getD 0 0) 2)]:=Jc0 (w:=3) (F:=vF fun j=>mid (l.getD j 0)) (fun _=>rfl) h0
 have n1:(1:Int)<=(l.length:Int):=by omega
 have n2:(0:Int)<(l.length:Int):=by omega
 have n4:(l.length:Int)<=(l.length:Int):=Int.le_refl _
 have n5:3<=l.length*3:=by omega
 have hd2:(l.length:Int).tdiv 2=((l.length / 2:Nat):Int):=by rw [Int.tdiv_eq_ediv_of_nonneg (by omega)];omega
 have hw2:IntKind.i64.wrap ((l.length / 2:Nat):Int)=((l.length / 2:Nat):Int):=wi (by omega)
 have hw3:IntKind.i64.wrap ((l.length:Int) / 2)=((l.length / 2:Nat):Int):=by rw [show (l.length:Int) / 2=((l.length / 2:Nat):Int) by omega];exact hw2
 have hlt0:∀ k,¬m.length+k<m.length:=fun k=>by omega
 refine AW.sr 2 fun K J0=>?_
 have U1:=ca4 hw (Ja5 hw) hmi (ca4 (Ja5 hmi) hb (Ja5 hb) (ca4 ml pl ga0 (ca4 n1 n2 n4 (ca2 n5 hwd))))
 simp only [push_cast,simprocAttr,bxC,c3C,U1]
 apply J0
 refine AW.q fun K J0=>?_
 refine AW.sr 1 fun K J1=>?_
 simp only [push_cast,simprocAttr,bxC,c3C,U1]
 apply J1
 apply AW.b
 refine AW.nilTm 59 3 5 rfl ?_
 try simp only [push_cast,simprocAttr,bxC,c3C,U1]
 refine AW.loopK [0,1,22,23] (fun i=>i<=l.length) (fun i=>[(5,.one (.sl m.length i 0 i)),(24,.one (.int .i64 (i:Int)))]) (fun i=>[(m.length,⟨.grow,59,i,3,Jb6 i (vF fun j=>mid (l.getD j 0))⟩)]) (fun i=>l.length - i) 0 (by omega) ?_ ?_ fun i hi2=>?_
 · first|rfl|(simp only [KS,simprocAttr,Jb6,Int.natCast_zero]<;>repeat' (first|rfl|apply And.intro))
 · (simp only [Ja2,push_cast,simprocAttr,Jb6])<;>rfl
 try simp only [Jb1,Ja2,push_cast,simprocAttr,bxC,c3C,U1]
 refine AW.sr 1 fun K J1=>?_
 simp only [push_cast,simprocAttr,bxC,c3C,U1]
 apply J1
 refine AW.q fun K J1=>?_
 refine AW.cond rfl (fun h25=>?_) (fun h25=>?_)
 ·have hlt:i<l.length:=by have:=of_decide_eq_true h25;omega
  have c1:(0:Int)<=(i:Int):=by omega
  have c2:(i:Int)<(l.length:Int):=by omega
  have hcx:=hcs i hlt
  have x1:l.getD i 0<N:=hI.lt _ hlt
  obtain ⟨x9,hx9⟩:∃ x,x=l.getD i 0:=⟨_,rfl⟩
  rw [<-hx9] at hcx x1
  have x2:(0:Int)<=(x9:Int):=by omega
  have x3:(x9:Int)<(N:Int):=by omega
  have x4:x9*3+3<=N*3:=by omega
  have gax:=Jc0 (w:=3) (F:=vF mid) (fun _=>rfl) x1
  have gxx:=Qv8 mid x9
  have c3:a+i+1<=(iC o).length:=by omega
  have c1:(0:Int)<=(i:Int):=by omega
  have c2:(i:Int)<(l.length:Int):=by omega
  have q1:i<=140737488355327:=by omega
  have q2:(i+1)*24<=140737488355328:=by omega
  have gli:(Jb6 i (vF fun j=>mid (l.getD j 0))).length=i*3:=Ja9 (w:=3) (F:=vF fun j=>mid (l.getD j 0)) (fun _=>rfl) i
  have hap:Jb6 i (vF fun j=>mid (l.getD j 0))++[.int .i64 (mid x9 0),.int .i64 (mid x9 1),.int .i64 (mid x9 2)]=Jb6 (i+1) (vF fun j=>mid (l.getD j 0)):=by rw [hx9];rfl
  apply AW.z
  apply J1
  refine AW.q fun K J1=>?_
  apply AW.b
  refine AW.sr 1 fun K J2=>?_
  have U2:=ca4 U1 hcx x2 (ca4 x3 x4 gax (ca4 gxx c1 c2 (ca4 c3 q1 q2 (ca2 gli hlt))))
  simp only [push_cast,simprocAttr,bxC,c3C,U2]
  apply J2
  refine AW.rg ?_
  simp only [push_cast,simprocAttr,bxC,c3C,U2]
  apply Ja8
  apply J1
  refine AW.rg ?_
  simp only [push_cast,simprocAttr,bxC,c3C,U2]
  apply Jc2
  have hwi:IntKind.i64.wrap ((i:Int)+1)=(i:Int)+1:=wi (by omega)
  refine ⟨i+1,by omega,by omega,?_⟩
  try simp only [Jb1,Ja2,push_cast,simprocAttr,bxC,c3C,U2,hwi,hap]
  exact Weak.to (extra:=_) (by simp only [KS,simprocAttr,hwi,hap]) (by first|rfl|(simp only [List.append_assoc,List.cons_append,List.nil_append];rfl)) (by first|rfl|(simp [AV.below,CV.below];done)|(simp [AV.below,CV.below];omega)) (by exact MWf.app (hwf.grow (by simp)) (Ja0 (Jc1 _ (fun _=>rfl) _) Jb7))
 have hin:i=l.length:=by have:=of_decide_eq_false h25;omega
 rw [hin]
 apply AW.v
 apply Jb0
 apply Jb0
 apply Ja6
 apply J0
 refine AW.q fun K J0=>?_
 refine AW.draw [.val,.val,.rd 0,.val,.val,.ext,.fl,.wr] fol (by decide) (by kernel_rfl) ?_
 simp only [push_cast,simprocAttr,bxC,c3C,U1]
 refine DCall.z (Xr7 mid l m.length l.length _ h0 hn ⟨.grow,3,by rw [Jn4];rfl⟩) ?_
 simp only [push_cast,simprocAttr,bxC,c3C,U1]
 apply J0
 refine AW.sr 2 fun K J0=>?_
 simp only [push_cast,simprocAttr,bxC,c3C,U1]
 refine CThen.by (Qx2 mid l _) ?_
 simp only [push_cast,simprocAttr,bxC,c3C,U1]
 refine CThen.by (Qh3 (Jr1 mid l) _) ?_
 simp only [push_cast,simprocAttr,bxC,c3C,U1]
 apply J0
 refine AW.q fun K J0=>?_
 refine AW.draw [.val,.rd 0,.val,.ext,.rd 0,.val,.ext,.val,.val] fol (by decide) (by kernel_rfl) ?_
 simp only [push_cast,simprocAttr,bxC,c3C,U1]
 refine DCall.z (Qv6 (Kd1 mid l) (Jh5 (Jr1 mid l)) (Jw7 _) _) ?_
 simp only [push_cast,simprocAttr,bxC,c3C,U1]
 refine DCall.z (Qv6 (Jr1 mid l) (Jh5 (Jr1 mid l)) (Jw7 _) _) ?_
 simp only [push_cast,simprocAttr,bxC,c3C,U1]
 apply J0
 refine AW.q fun K J0=>?_
 refine AW.sr 1 fun K J1=>?_
 simp only [push_cast,simprocAttr,bxC,c3C,U1]
 apply J1
 apply AW.x rfl
 apply AW.z
 apply J0
 refine AW.anyMemG (fun m1=>(∃ L,m1=m++L)/\MWf m1.length m1) ⟨⟨_,rfl⟩,MWf.app (hwf.grow (by simp)) (Ja0 (Jc1 _ (fun _=>rfl) _) (Ja0 rfl (Ja0 rfl Jb7)))⟩ fun m1 hm1=>?_
 refine AW.sr 2 fun K J0=>?_
 simp only [push_cast,simprocAttr,bxC,c3C,U1]
 apply J0
 refine AW.q fun K J0=>?_
 refine AW.sr 1 fun K J1=>?_
 simp only [push_cast,simprocAttr,bxC,c3C,U1]
 apply J1
 apply AW.b
 refine AW.loopX [0,1,10,11,12] (fun (q:SpQ)=>SpI m1 (Jq0 prs mid l) q) (fun (q:SpQ)=>[(13,.one q.x),(14,.one (.int .i64 q.k)),(15,.one (.int .i64 q.y)),(16,.one (.int .i64 (q.c:Int)))]) (fun (q:SpQ)=>q.M) (fun (q:SpQ)=>8 - q.c) ⟨1,.nils,0,0,m1⟩ ⟨Nat.le_refl _,(by show 1<=8;omega),⟨[],(List.append_nil _).symm⟩,hm1.2,⟨rfl,rfl,rfl⟩⟩ ?_ ?_ (fun q hq=>by obtain ⟨L,h⟩:=hq.hM;rw [h];simp) fun q hi9=>?_
 · first|rfl|(simp only [KS,simprocAttr,Int.natCast_zero]<;>repeat' (first|rfl|apply And.intro))
 · rfl
 obtain ⟨c,x,k,y,M⟩:=q
 have hSI:=hi9
 obtain ⟨cb1,cb8,hM9,hwf9,hb9⟩:=hi9
 dsimp only at cb1 cb8 hM9 hwf9 hb9 ⊢
 have hxb:=hb9.bel
 have hxb2:=hxb
 simp [CV.below] at hxb2
 have hMX:∃ L,M=m++L:=by obtain ⟨L,h⟩:=hM9;obtain ⟨⟨L0,h0⟩,_⟩:=hm1;exact ⟨L0++L,by rw [h,h0,List.append_assoc]⟩
 have hMM:MkAt M w c0 c1 pb pv N mb mv prs mid:=by obtain ⟨L,h⟩:=hMX;rw [h];exact hM.app L
 have hIM:IdsAt M r v a l N:=by obtain ⟨L,h⟩:=hMX;rw [h];exact hI.app L
 have hbM:M[r]?=some ⟨.grow,3,v,ez,iC o⟩:=by obtain ⟨L,h⟩:=hMX;rw [h];exact Ja5 hb L
 have hwM:=hMM.hw
 obtain ⟨kmM,emM,hmM⟩:=hMM.hm
 have lwM:=Jb2 hwM
 have lmM:=Jb2 hmM
 have lbM:=Jb2 hbM
 have hltM:∀ k,¬M.length+k<M.length:=fun k=>by omega
 try simp only [Jb1,Ja2,push_cast,simprocAttr,bxC,c3C,U1,hwM,Ja5 hwM,hmM,Ja5 hmM,hbM,Ja5 hbM]
 refine AW.q fun K J1=>?_
 refine AW.sr 1 fun K J2=>?_
 have U3:=ca4 U1 hwM (Ja5 hwM) (ca4 hmM (Ja5 hmM) hbM (Ja5 hbM))
 simp only [push_cast,simprocAttr,bxC,c3C,U3]
 apply J2
 refine AW.cond rfl (fun h62=>?_) (fun h62=>?_)
 ·have h8:c<8:=by have:=of_decide_eq_true h62;omega
  have hmu:8 - (c+1)<8 - c:=by omega
  have hw9:IntKind.i64.wrap ((c:Int)+1)=(c:Int)+1:=wi (by omega)
  have hcu:=Vf6 prs mid l cb1
  apply AW.z
  apply J1
  refine AW.q fun K J1=>?_
  apply AW.b
  refine AW.sr 1 fun K J2=>?_
  simp only [push_cast,simprocAttr,bxC,c3C,U3]
  apply J2
  refine AW.q fun K J2=>?_
  refine AW.sr 1 fun K J3=>?_
  simp only [push_cast,simprocAttr,bxC,c3C,U3]
  apply J3
  apply AW.b
  refine AW.nilTm 3 1 17 rfl ?_
  try simp only [push_cast,simprocAttr,bxC,c3C,U3]
  refine AW.nilTm 3 1 18 rfl ?_
  try simp only [push_cast,simprocAttr,bxC,c3C,U3]
  refine AW.loopK [0,1,10,11,12,13,14,15,16,65,66] (fun i=>i<=l.length) (fun i=>[(17,.one (.sl M.length (lfN mid l c i).length 0 (lfN mid l c i).length)),(18,.one (.sl (M.length+1) (rgN mid l c i).length 0 (rgN mid l c i).length)),(67,.one (.int .i64 (i:Int)))]) (fun i=>[(M.length,⟨.grow,3,(lfN mid l c i).length,1,iC (lfN mid l c i)⟩),(M.length+1,⟨.grow,3,(rgN mid l c i).length,1,iC (rgN mid l c i)⟩)]) (fun i=>l.length - i) 0 (by omega) ?_ ?_ fun i hi13=>?_
  · first|rfl|(simp only [KS,simprocAttr,lfN,rgN,List.take_zero,List.filter_nil,iC,List.map_nil,List.length_nil,Int.natCast_zero]<;>repeat' (first|rfl|apply And.intro))
  · (simp only [Ja2,push_cast,simprocAttr,lfN,rgN,List.take_zero,List.filter_nil,iC,List.map_nil,List.length_nil])<;>rfl
  try simp only [Jb1,Ja2,push_cast,simprocAttr,bxC,c3C,U3]
  refine AW.sr 1 fun K J3=>?_
  simp only [push_cast,simprocAttr,bxC,c3C,U3]
  apply J3
  refine AW.q fun K J3=>?_
  refine AW.cond rfl (fun h68=>?_) (fun h68=>?_)
  ·have hlt:i<l.length:=by have:=of_decide_eq_true h68;omega
   have c1:(0:Int)<=(i:Int):=by omega
   have c2:(i:Int)<(l.length:Int):=by omega
   have hcx:=hcs i hlt
   have x1:l.getD i 0<N:=hI.lt _ hlt
   obtain ⟨x9,hx9⟩:∃ x,x=l.getD i 0:=⟨_,rfl⟩
   rw [<-hx9] at hcx x1
   have x2:(0:Int)<=(x9:Int):=by omega
   have x3:(x9:Int)<(N:Int):=by omega
   have x4:x9*3+3<=N*3:=by omega
   have gax:=Jc0 (w:=3) (F:=vF mid) (fun _=>rfl) x1
   have gxx:=Qv8 mid x9
   have c3:a+i+1<=(iC o).length:=by omega
   have z1:(0:Int)<=(i:Int):=by omega
   have z2:(i:Int)<(l.length:Int):=by omega
   apply AW.z
   apply J3
   refine AW.q fun K J3=>?_
   apply AW.b
   refine AW.sr 2 fun K J4=>?_
   have U4:=ca4 U3 hcx x2 (ca4 x3 x4 gax (ca4 gxx z1 z2 (ca2 c3 hlt)))
   simp only [push_cast,simprocAttr,bxC,c3C,U4]
   refine CThen.by (Qv6 (mid x9) (Jh5 (Jr1 mid l)) (Jw7 _) _) ?_
   simp only [push_cast,simprocAttr,bxC,c3C,U4]
   refine CThen.by (Xo4 (mid x9 (Jh5 (Jr1 mid l))) (Kd1 mid l (Jh5 (Jr1 mid l))) (Jr1 mid l (Jh5 (Jr1 mid l))) _) ?_
   simp only [push_cast,simprocAttr,bxC,c3C,U4]
   apply J4
   refine AW.cond rfl (fun h84=>?_) (fun h84=>?_)
   ·have hg:Qb5 mid l c (l.getD i 0)=true:=by rw [<-hx9];exact h84
    obtain ⟨hl1,hl2⟩:=lf_t hlt hg
    rw [<-hx9] at hl1
    have hq1:(lfN mid l c i).length<=140737488355327:=by have:=Vp6 mid l c i;omega
    have hq2:((lfN mid l c i).length+1)*8<=140737488355328:=by have:=Vp6 mid l c i;omega
    have hgl:(iC (lfN mid l c i)).length=(lfN mid l c i).length:=Jg8 _
    have hap1:=Jx6 (lfN mid l c i) x9
    refine AW.rg ?_
    simp only [push_cast,simprocAttr,bxC,c3C,U4,hq1,hq2,hgl]
    apply Ja8
    apply J3
    refine AW.rg ?_
    simp only [push_cast,simprocAttr,bxC,c3C,U4,hq1,hq2,hgl]
    apply Jc2
    have hwi:IntKind.i64.wrap ((i:Int)+1)=(i:Int)+1:=wi (by omega)
    refine ⟨i+1,by omega,by omega,?_⟩
    try simp only [Jb1,Ja2,push_cast,simprocAttr,bxC,c3C,U4,hq1,hq2,hgl,hwi,hl1,hl2,hap1,List.length_append]
    exact Weak.to (extra:=_) (by simp only [KS,simprocAttr,hwi,hl1,hl2,hap1,List.length_append]) (by first|rfl|(simp only [List.append_assoc,List.cons_append,List.nil_append];rfl)) (by first|rfl|(simp [AV.below,CV.below,hxb2];done)|(simp [AV.below,CV.below,hxb2];omega)) (by exact MWf.app (hwf9.grow (by simp)) (Ja0 (Jg9 _ _) (Ja0 (Jg9 _ _) Jb7)))
   have hg:Qb5 mid l c (l.getD i 0)=false:=by rw [<-hx9];exact h84
   obtain ⟨hl1,hl2⟩:=lf_f hlt hg
   rw [<-hx9] at hl2
   have hq1:(rgN mid l c i).length<=140737488355327:=by have:=Vp6 mid l c i;omega
   have hq2:((rgN mid l c i).length+1)*8<=140737488355328:=by have:=Vp6 mid l c i;omega
   have hgl:(iC (rgN mid l c i)).length=(rgN mid l c i).length:=Jg8 _
   have hap1:=Jx6 (rgN mid l c i) x9
   refine AW.rg ?_
   simp only [push_cast,simprocAttr,bxC,c3C,U4,hq1,hq2,hgl]
   apply Ja8
   apply J3
   refine AW.rg ?_
   simp only [push_cast,simprocAttr,bxC,c3C,U4,hq1,hq2,hgl]
   apply Jc2
   have hwi:IntKind.i64.wrap ((i:Int)+1)=(i:Int)+1:=wi (by omega)
   refine ⟨i+1,by omega,by omega,?_⟩
   try simp only [Jb1,Ja2,push_cast,simprocAttr,bxC,c3C,U4,hq1,hq2,hgl,hwi,hl1,hl2,hap1,List.length_append]
   exact Weak.to (extra:=_) (by simp only [KS,simprocAttr,hwi,hl1,hl2,hap1,List.length_append]) (by first|rfl|(simp only [List.append_assoc,List.cons_append,List.nil_append];rfl)) (by first|rfl|(simp [AV.below,CV.below,hxb2];done)|(simp [AV.below,CV.below,hxb2];omega)) (by exact MWf.app (hwf9.grow (by simp)) (Ja0 (Jg9 _ _) (Ja0 (Jg9 _ _) Jb7)))
  have hin:i=l.length:=by have:=of_decide_eq_false h68;omega
  rw [hin,(Vw7 mid l c).1,(Vw7 mid l c).2]
  apply AW.v
  apply Jb0
  apply Jb0
  apply Ja6
  apply J2
  refine AW.q fun K J2=>?_
  refine AW.q fun K J3=>?_
  have hk26:(Jf0 mid l c=[]/\((Jf0 mid l c).length:Int)=0)\/(Jf0 mid l c≠[]/\0<(Jf0 mid l c).length/\Jd7 mid l c=[])\/(Jf0 mid l c≠[]/\Jd7 mid l c≠[]/\0<(Jf0 mid l c).length/\0<(Jd7 mid l c).length):=by
    by_cases g1:Jf0 mid l c=[]
    · exact .inl ⟨g1,by rw [g1];rfl⟩
    by_cases g2:Jd7 mid l c=[]
    · exact .inr (.inl ⟨g1,List.length_pos_iff.2 g1,g2⟩)
    exact .inr (.inr ⟨g1,g2,List.length_pos_iff.2 g1,List.length_pos_iff.2 g2⟩)
  rcases hk26 with ⟨g1,g2⟩|⟨g1,g2,g3⟩|⟨g1,g2,g3,g4⟩
  ·have hst:Jq0 prs mid l c=Jq0 prs mid l (c - 1):=by rw [hcu];unfold Vt1;rw [if_pos (.inl g1)]
   have hNx:=hSI.stay h8 hst
   have e1:(((Jf0 mid l c).length:Int) ==0)=true:=by rw [g2];rfl
   refine AW.rg ?_
   simp only [push_cast,simprocAttr,bxC,c3C,U3,e1]
   apply J3
   apply AW.y rfl
   apply AW.v
   apply Jb0
   apply Ja6
   apply J1
   refine AW.rg ?_
   simp only [push_cast,simprocAttr,bxC,c3C,U3,e1]
   apply Jc2
   try simp only [Jb1,Ja2,push_cast,simprocAttr,bxC,c3C,U3,e1]
   first|exact ⟨_,hNx _ _ _ _ _ _,hmu,Weak.same (by simp only [KS,simprocAttr,hw9,Int.natCast_add,Int.cast_ofNat_Int,Int.natCast_one]) (by first|rfl|(simp only [List.append_assoc,List.cons_append,List.nil_append];rfl))⟩|exact ⟨_,hNx ((Jf0 mid l c).length+1) 1 _ _ _,hmu,Weak.same (by simp only [KS,simprocAttr,hw9,Int.natCast_add,Int.cast_ofNat_Int,Int.natCast_one]) (by first|rfl|(simp only [List.append_assoc,List.cons_append,List.nil_append];rfl))⟩
  ·have hst:Jq0 prs mid l c=Jq0 prs mid l (c - 1):=by rw [hcu];unfold Vt1;rw [if_pos (.inr g3)]
   have hNx:=hSI.stay h8 hst
   have e1:(((Jf0 mid l c).length:Int) ==0)=false:=by simp;omega
   have e2:(((Jd7 mid l c).length:Int) ==0)=true:=by rw [g3];rfl
   refine AW.rg ?_
   simp only [push_cast,simprocAttr,bxC,c3C,U3,e1,e2]
   apply J3
   apply AW.y rfl
   apply AW.v
   apply Jb0
   apply Ja6
   apply J1
   refine AW.rg ?_
   simp only [push_cast,simprocAttr,bxC,c3C,U3,e1,e2]
   apply Jc2
   try simp only [Jb1,Ja2,push_cast,simprocAttr,bxC,c3C,U3,e1,e2]
   first|exact ⟨_,hNx _ _ _ _ _ _,hmu,Weak.same (by simp only [KS,simprocAttr,hw9,Int.natCast_add,Int.cast_ofNat_Int,Int.natCast_one]) (by first|rfl|(simp only [List.append_assoc,List.cons_append,List.nil_append];rfl))⟩|exact ⟨_,hNx ((Jf0 mid l c).length+1) 1 _ _ _,hmu,Weak.same (by simp only [KS,simprocAttr,hw9,Int.natCast_add,Int.cast_ofNat_Int,Int.natCast_one]) (by first|rfl|(simp only [List.append_assoc,List.cons_append,List.nil_append];rfl))⟩
  have e1:(((Jf0 mid l c).length:Int) ==0)=false:=by simp;omega
  have e2:(((Jd7 mid l c).length:Int) ==0)=false:=by simp;omega
  have hle1:(Jf0 mid l c).length<=l.length:=List.length_filter_le _ _
  have hle2:(Jd7 mid l c).length<=l.length:=List.length_filter_le _ _
  have hlf1:∀ i,i<(Jf0 mid l c).length->(Jf0 mid l c).getD i 0<N:=Qb0 hI.lt
  have hlf2:∀ i,i<(Jd7 mid l c).length->(Jd7 mid l c).getD i 0<N:=Qb0 hI.lt
  have hs1:=Qi0 (Jq3 (Jc3 prs (Jf0 mid l c)))
  have hs2:=Qi0 (Jq3 (Jc3 prs (Jd7 mid l c)))
  have hcb:∀ t:List Nat,t.length<=128->-274877906944<=Jp4 prs t/\Jp4 prs t<=274877906944:=fun t ht=>by
    have hs:=Qi0 (Jq3 (Jc3 prs t))
    have q1:=Int.mul_le_mul_of_nonneg_left hs.1 (show 0<=(t.length:Int) by omega)
    have q2:=Int.mul_le_mul_of_nonneg_left hs.2 (show 0<=(t.length:Int) by omega)
    unfold Jp4;omega
  have hb1:=hcb (Jf0 mid l c) (by omega)
  have hb2:=hcb (Jd7 mid l c) (by omega)
  have hwc:IntKind.i64.wrap (Jp4 prs (Jf0 mid l c)+Jp4 prs (Jd7 mid l c))=Jp4 prs (Jf0 mid l c)+Jp4 prs (Jd7 mid l c):=wi (by omega)
  refine AW.rg ?_
  simp only [push_cast,simprocAttr,bxC,c3C,U3,e1,e2,hwc]
  apply J3
  apply AW.x rfl
  apply AW.z
  apply J2
  refine AW.sr 1 fun K J2=>?_
  simp only [push_cast,simprocAttr,bxC,c3C,U3,e1,e2,hwc]
  refine CThen.by (Qw6 w c0 c1 pb pv N mb mv prs mid M.length _ 0 (Jf0 mid l c) _ (hMM.app _) (Qm9 ⟨.grow,1,by rw [Jn4];rfl⟩ hlf1 (by omega)) g3) ?_
  simp only [push_cast,simprocAttr,bxC,c3C,U3,e1,e2,hwc]
  refine CThen.by (Qw6 w c0 c1 pb pv N mb mv prs mid (M.length+1) _ 0 (Jd7 mid l c) _ (hMM.app _) (Qm9 ⟨.grow,1,by rw [Jg1];rfl⟩ hlf2 (by omega)) g4) ?_
  simp only [push_cast,simprocAttr,bxC,c3C,U3,e1,e2,hwc]
  apply J2
  refine AW.q fun K J2=>?_
  rcases Qc8 hb9 (Jp4 prs (Jf0 mid l c)+Jp4 prs (Jd7 mid l c)) with ⟨hs0,rfl,rfl,rfl⟩|⟨bb,bn,bc,rb,vb,kk,eb,hs0,rfl,hp0,hp1,rfl,rfl,hlk,hlt9⟩|⟨bb,bn,bc,rb,vb,kk,eb,hs0,rfl,hp0,hp1,rfl,rfl,hlk,hlt9⟩
  ·have hst:Jq0 prs mid l c=some (Jf0 mid l c++Jd7 mid l c,(Jf0 mid l c).length,Jp4 prs (Jf0 mid l c)+Jp4 prs (Jd7 mid l c)):=by rw [hcu];unfold Vt1;rw [if_neg (fun h=>h.elim g1 g2),hs0]
   have hNx:=hSI.best h8 hn g3 hst
   have hgl1:(iC (Jf0 mid l c)).length=(Jf0 mid l c).length:=Jg8 _
   have hgl2:(iC (Jd7 mid l c)).length=(Jd7 mid l c).length:=Jg8 _
   have hq1:(Jf0 mid l c).length+(Jd7 mid l c).length<=140737488355327:=by omega
   have hq2:((Jf0 mid l c).length+(Jd7 mid l c).length)*8<=140737488355328:=by omega
   have hq3:(Jf0 mid l c).length+(Jd7 mid l c).length<=140737488355328:=by omega
   have hvR:(iC (Jd7 mid l c)).all CV.isVal=true:=Qk9 _
   have htk:List.take (Jd7 mid l c).length (iC (Jd7 mid l c))=iC (Jd7 mid l c):=List.take_of_length_le (by rw [Jg8];omega)
   refine AW.rg ?_
   have U5:=ca4 U3 e1 e2 (ca4 hwc hgl1 hgl2 (ca4 hq1 hq2 hq3 (ca2 hvR htk)))
   simp only [push_cast,simprocAttr,bxC,c3C,U5]
   apply J2
   apply AW.y rfl
   refine AW.rg ?_
   simp only [push_cast,simprocAttr,bxC,c3C,U5]
   apply Ja8
   apply J1
   refine AW.rg ?_
   simp only [push_cast,simprocAttr,bxC,c3C,U5]
   apply Jc2
   try simp only [Jb1,Ja2,push_cast,simprocAttr,bxC,c3C,U5]
   first|exact ⟨_,hNx _ _ _ _ _ _,hmu,Weak.same (by simp only [KS,simprocAttr,hw9,Int.natCast_add,Int.cast_ofNat_Int,Int.natCast_one]) (by first|rfl|(simp only [List.append_assoc,List.cons_append,List.nil_append];rfl))⟩|exact ⟨_,hNx ((Jf0 mid l c).length+1) 1 _ _ _,hmu,Weak.same (by simp only [KS,simprocAttr,hw9,Int.natCast_add,Int.cast_ofNat_Int,Int.natCast_one]) (by first|rfl|(simp only [List.append_assoc,List.cons_append,List.nil_append];rfl))⟩
  ·have hst:Jq0 prs mid l c=some (Jf0 mid l c++Jd7 mid l c,(Jf0 mid l c).length,Jp4 prs (Jf0 mid l c)+Jp4 prs (Jd7 mid l c)):=by rw [hcu];unfold Vt1;rw [if_neg (fun h=>h.elim g1 g2),hs0];exact if_pos hlt9
   have hNx:=hSI.best h8 hn g3 hst
   have hgl1:(iC (Jf0 mid l c)).length=(Jf0 mid l c).length:=Jg8 _
   have hgl2:(iC (Jd7 mid l c)).length=(Jd7 mid l c).length:=Jg8 _
   have hq1:(Jf0 mid l c).length+(Jd7 mid l c).length<=140737488355327:=by omega
   have hq2:((Jf0 mid l c).length+(Jd7 mid l c).length)*8<=140737488355328:=by omega
   have hq3:(Jf0 mid l c).length+(Jd7 mid l c).length<=140737488355328:=by omega
   have hvR:(iC (Jd7 mid l c)).all CV.isVal=true:=Qk9 _
   have htk:List.take (Jd7 mid l c).length (iC (Jd7 mid l c))=iC (Jd7 mid l c):=List.take_of_length_le (by rw [Jg8];omega)
   refine AW.rg ?_
   have U6:=ca4 U3 e1 e2 (ca4 hwc hgl1 hgl2 (ca4 hq1 hq2 hq3 (ca4 hvR htk hp0 hlt9)))
   simp only [push_cast,simprocAttr,bxC,c3C,U6]
   apply J2
   apply AW.y rfl
   refine AW.rg ?_
   simp only [push_cast,simprocAttr,bxC,c3C,U6]
   apply Ja8
   apply J1
   refine AW.rg ?_
   simp only [push_cast,simprocAttr,bxC,c3C,U6]
   apply Jc2
   try simp only [Jb1,Ja2,push_cast,simprocAttr,bxC,c3C,U6]
   first|exact ⟨_,hNx _ _ _ _ _ _,hmu,Weak.same (by simp only [KS,simprocAttr,hw9,Int.natCast_add,Int.cast_ofNat_Int,Int.natCast_one]) (by first|rfl|(simp only [List.append_assoc,List.cons_append,List.nil_append];rfl))⟩|exact ⟨_,hNx ((Jf0 mid l c).length+1) 1 _ _ _,hmu,Weak.same (by simp only [KS,simprocAttr,hw9,Int.natCast_add,Int.cast_ofNat_Int,Int.natCast_one]) (by first|rfl|(simp only [List.append_assoc,List.cons_append,List.nil_append];rfl))⟩
  have hst:Jq0 prs mid l c=Jq0 prs mid l (c - 1):=by rw [hcu];unfold Vt1;rw [if_neg (fun h=>h.elim g1 g2),hs0];exact if_neg hlt9
  have hNx:=hSI.stay h8 hst
  refine AW.rg ?_
  have U7:=ca4 U3 e1 e2 (ca3 hwc hp0 hlt9)
  simp only [push_cast,simprocAttr,bxC,c3C,U7]
  apply J2
  apply AW.x rfl
  apply AW.z
  apply Ja8
  apply J1
  refine AW.rg ?_
  simp only [push_cast,simprocAttr,bxC,c3C,U7]
  apply Jc2
  try simp only [Jb1,Ja2,push_cast,simprocAttr,bxC,c3C,U7]
  first|exact ⟨_,hNx _ _ _ _ _ _,hmu,Weak.same (by simp only [KS,simprocAttr,hw9,Int.natCast_add,Int.cast_ofNat_Int,Int.natCast_one]) (by first|rfl|(simp only [List.append_assoc,List.cons_append,List.nil_append];rfl))⟩|exact ⟨_,hNx ((Jf0 mid l c).length+1) 1 _ _ _,hmu,Weak.same (by simp only [KS,simprocAttr,hw9,Int.natCast_add,Int.cast_ofNat_Int,Int.natCast_one]) (by first|rfl|(simp only [List.append_assoc,List.cons_append,List.nil_append];rfl))⟩
 obtain rfl:c=8:=by have:=of_decide_eq_false h62;omega
 apply AW.v
 apply Jb0
 apply Jb0
 apply Ja6
 apply J0
 refine AW.q fun K J0=>?_
 refine AW.q fun K J1=>?_
 rcases Qc8 hb9 0 with ⟨hs0,rfl,rfl,rfl⟩|⟨bb,bn,bc,rb,vb,kk,eb,hs0,rfl,hp0,hp1,rfl,rfl,hlk,hlt9⟩|⟨bb,bn,bc,rb,vb,kk,eb,hs0,rfl,hp0,hp1,rfl,rfl,hlk,hlt9⟩
 all_goals (try dsimp only [Nat.add_one_sub_one] at hs0)
 ·have hsp:Jm2 prs mid l=(l,l.length / 2):=by unfold Jm2;rw [if_neg (show ¬Qo9 mid l<=0 from hwd),hs0]
  have hput:m.set r ⟨.grow,3,v,ez,iC (Jw3 o a b l)⟩=m:=by
    rw [show Jw3 o a b l=o from by rw [<-hl];exact Kk9 hab hbo]
    exact set_self hb
  rw [hsp,hput] at hQ
  obtain ⟨L9,hL9⟩:=hMX
  subst hL9
  refine AW.rg ?_
  simp only [push_cast,simprocAttr,bxC,c3C,U3,hd2,hw2,hw3]
  apply J1
  apply AW.y rfl
  refine AW.sr 1 fun K J1=>?_
  simp only [push_cast,simprocAttr,bxC,c3C,U3,hd2,hw2,hw3]
  apply J1
  refine AW.ret ?_
  apply Jc8
  refine hQ _ _ _ ?_
  first|refine RetP.drop0 (by first|exact Or.inr rfl|exact Or.inl rfl) ?_ ?_ hwf|refine RetP.drop (by first|exact Or.inr rfl|exact Or.inl rfl) ?_ ?_ hwf|refine RetP.dropM (by simp) (by first|exact Or.inr rfl|exact Or.inl rfl) ?_ ?_ (Js4 hwf (Jg9 _ _) rfl)
  · (simp only [Jd0,Ja7,Jb5,AV.tv,push_cast,simprocAttr])<;>rfl
  rfl
 ·have hsp:Jm2 prs mid l=(bb,bn):=by unfold Jm2;rw [if_neg (show ¬Qo9 mid l<=0 from hwd),hs0]
  rw [hsp] at hQ
  have hok:=Kh5 (prs:=prs) (mid:=mid) (l:=l) 7
  rw [hs0] at hok
  have hbl:bb.length=l.length:=hok.1.length_eq
  have hmin:min bb.length l.length=l.length:=by omega
  have hcp:setL (iC o) a (iC bb)=iC (Jw3 o a b bb):=Qx5 hab hbo (by rw [hbl,<-hl,Jf6 hbo])
  have hbv:=Qk9 bb
  have hbg:(iC bb).length=l.length:=by rw [Jg8,hbl]
  have hbt:List.take l.length (iC bb)=iC bb:=List.take_of_length_le (by omega)
  obtain ⟨L9,hL9⟩:=hMX
  have hset9:∀ B,M.set r B=m.set r B++L9:=fun B=>by rw [hL9];exact List.set_append_left _ _ (by omega)
  refine AW.rg ?_
  have U8:=ca4 U3 hp0 hlk (ca4 hbl hmin hcp (ca4 hbv hbg hbt (ca3 h0 hcl hset9)))
  simp only [push_cast,simprocAttr,bxC,c3C,Nat.min_self,U8]
  apply J1
  apply AW.x rfl
  apply AW.z
  apply J0
  refine AW.sr 2 fun K J0=>?_
  simp only [push_cast,simprocAttr,bxC,c3C,Nat.min_self,U8]
  apply J0
  refine AW.ret ?_
  refine hQ _ _ _ ?_
  first|refine RetP.drop0 (by first|exact Or.inr rfl|exact Or.inl rfl) ?_ ?_ hwf|refine RetP.drop (by first|exact Or.inr rfl|exact Or.inl rfl) ?_ ?_ hwf|refine RetP.dropM (by simp) (by first|exact Or.inr rfl|exact Or.inl rfl) ?_ ?_ (Js4 hwf (Jg9 _ _) rfl)
  · (simp only [Jd0,Ja7,Jb5,AV.tv,push_cast,simprocAttr])<;>rfl
  rfl
 have hsp:Jm2 prs mid l=(bb,bn):=by unfold Jm2;rw [if_neg (show ¬Qo9 mid l<=0 from hwd),hs0]
 rw [hsp] at hQ
 have hok:=Kh5 (prs:=prs) (mid:=mid) (l:=l) 7
 rw [hs0] at hok
 have hbl:bb.length=l.length:=hok.1.length_eq
 have hmin:min bb.length l.length=l.length:=by omega
 have hcp:setL (iC o) a (iC bb)=iC (Jw3 o a b bb):=Qx5 hab hbo (by rw [hbl,<-hl,Jf6 hbo])
 have hbv:=Qk9 bb
 have hbg:(iC bb).length=l.length:=by rw [Jg8,hbl]
 have hbt:List.take l.length (iC bb)=iC bb:=List.take_of_length_le (by omega)
 obtain ⟨L9,hL9⟩:=hMX
 have hset9:∀ B,M.set r B=m.set r B++L9:=fun B=>by rw [hL9];exact List.set_append_left _ _ (by omega)
 refine AW.rg ?_
 have U9:=ca4 U3 hp0 hlk (ca4 hbl hmin hcp (ca4 hbv hbg hbt (ca3 h0 hcl hset9)))
 simp only [push_cast,simprocAttr,bxC,c3C,Nat.min_self,U9]
 apply J1
 apply AW.x rfl
 apply AW.z
 apply J0
 refine AW.sr 2 fun K J0=>?_
 simp only [push_cast,simprocAttr,bxC,c3C,Nat.min_self,U9]
 apply J0
 refine AW.ret ?_
 refine hQ _ _ _ ?_
 first|refine RetP.drop0 (by first|exact Or.inr rfl|exact Or.inl rfl) ?_ ?_ hwf|refine RetP.drop (by first|exact Or.inr rfl|exact Or.inl rfl) ?_ ?_ hwf|refine RetP.dropM (by simp) (by first|exact Or.inr rfl|exact Or.inl rfl) ?_ ?_ (Js4 hwf (Jg9 _ _) rfl)
 · (simp only [Jd0,Ja7,Jb5,AV.tv,push_cast,simprocAttr])<;>rfl
 rfl
theorem Vz3 (w:Nat)(c0 c1:CV)(pb pv N mb mv:Nat)(prs:Nat->PR)(mid:Nat->V)(r v a b ez:Nat)(o l:List Nat)(m:Ja1)(hM:MkAt m w c0 c1 pb pv N mb mv prs mid)(hb:m[r]?=some ⟨.grow,3,v,ez,iC o⟩)(hab:a<b)(hbo:b<=o.length)(ho:∀ x,x<o.length->o.getD x 0<N)(hol:o.length<=128)(hl:Jk8 o a b=l):Ctr Tryz.prog 228 [.one (.ptr w 0 0),.one (.sl r v a l.length)] m (.one (.int .i64 (((Jm2 prs mid l).2:Nat):Int))) (m.set r ⟨.grow,3,v,ez,iC (Jw3 o a b (Jm2 prs mid l).1)⟩):=by
 by_cases hwd:Jr1 mid l (Jh5 (Jr1 mid l))<=0
 ·have hsp:Jm2 prs mid l=(l,l.length / 2):=by unfold Jm2;exact if_pos (show Qo9 mid l<=0 from hwd)
  have hput:m.set r ⟨.grow,3,v,ez,iC (Jw3 o a b l)⟩=m:=by
   rw [show Jw3 o a b l=o from by rw [<-hl];exact Kk9 hab hbo]
   exact set_self hb
  rw [hsp,hput]
  exact Vj5 w c0 c1 pb pv N mb mv prs mid r v a b ez o l m hM hb hab hbo ho hol hl hwd
 exact Vj4 w c0 c1 pb pv N mb mv prs mid r v a b ez o l m hM hb hab hbo ho hol hl hwd
def ndC (d:ND):List CV:=prC d.p++[.int .i64 d.left,.int .i64 d.right,.int .i64 d.first,.int .i64 d.count]
def nd0:ND:=⟨⟨⟨fun _=>0,fun _=>0⟩,⟨fun _=>0,fun _=>0⟩⟩,0,0,0,0⟩
def ndL (l:List ND):List CV:=Jb6 l.length fun i=>ndC (l.getD i nd0)
theorem Km3 (l:List ND):(ndL l).length=l.length*16:=Ja9 (w:=16) (fun _=>rfl) _
theorem catC_congr {F G:Nat->List CV}:∀ {n:Nat},(∀ i,i<n->F i=G i)->Jb6 n F=Jb6 n G
 | 0,_=>rfl
 | n+1,h=>by show Jb6 n F++F n=Jb6 n G++G n;rw [catC_congr fun i hi=>h i (by omega),h n (by omega)]
theorem Vo2 (l:List ND)(d:ND):ndL l++ndC d=ndL (l++[d]):=by
 unfold ndL
 rw [List.length_append,List.length_singleton]
 show _=Jb6 l.length _++ndC ((l++[d]).getD l.length nd0)
 have e:(l++[d]).getD l.length nd0=d:=by rw [List.getD_eq_getElem?_getD,List.getElem?_append_right (Nat.le_refl _),Nat.sub_self];rfl
 rw [e]
 congr 1
 exact catC_congr fun i hi=>by rw [List.getD_eq_getElem?_getD,List.getD_eq_getElem?_getD,List.getElem?_append_left hi]
theorem catC_set {F G:Nat->List CV}{w:Nat}(hF:∀ i,(F i).length=w){i k:Nat}{x:CV}(hk:k<w)(hG:G i=(F i).set k x):∀ {n:Nat},(∀ j,j≠i->G j=F j)->i<n->(Jb6 n F).set (i*w+k) x=Jb6 n G
 | 0,_,h=>by omega
 | n+1,hj,h=>by
  have hl:=Ja9 (w:=w) (F:=F) hF n
  show (Jb6 n F++F n).set _ x=Jb6 n G++G n
  by_cases e:i=n
  ·subst e
   rw [List.set_append_right _ _ (by omega),hl,Nat.add_sub_cancel_left,hG]
   congr 1
   exact catC_congr fun j q=>(hj j (by omega)).symm
  have hle:(i+1)*w<=n*w:=Nat.mul_le_mul_right w (by omega)
  rw [Nat.add_mul,Nat.one_mul] at hle
  rw [List.set_append_left _ _ (by omega),catC_set hF hk hG hj (by omega),hj n (by omega)]
theorem Vc2 {l:List ND}{i k:Nat}{d d':ND}{x:CV}(hi:l[i]?=some d)(hk:k<16)(hd:ndC d'=(ndC d).set k x):(ndL l).set (i*16+k) x=ndL (l.set i d'):=by
 have hlt:=(List.getElem?_eq_some_iff.1 hi).1
 unfold ndL
 rw [List.length_set]
 refine catC_set (w:=16) (fun _=>rfl) hk ?_ ?_ hlt
 ·rw [List.getD_eq_getElem?_getD,List.getD_eq_getElem?_getD,List.getElem?_set_self hlt,hi];exact hd
 intro j hj
 rw [List.getD_eq_getElem?_getD,List.getD_eq_getElem?_getD,List.getElem?_set_ne (by omega)]
structure TB where
 (w nb r pb pv N mb mv v ez:Nat)
def TB.wC (T:TB)(st:List Nat × List ND):List CV:=[.sl T.nb st.2.length 0 st.2.length,.sl T.r T.v 0 st.1.length,.sl T.pb T.pv 0 T.N,.sl T.mb T.mv 0 T.N]
def tM (m:Ja1)(T:TB)(st:List Nat × List ND):Ja1:=((m.set T.w ⟨.fix,314,0,0,T.wC st⟩).set T.nb ⟨.grow,255,st.2.length,16,ndL st.2⟩).set T.r ⟨.grow,3,T.v,T.ez,iC st.1⟩
structure TmP (T:TB)(prs:Nat->PR)(mid:Nat->V)(m M:Ja1)(st:List Nat × List ND):Prop where
 len:m.length<=M.length
 old:∀ i,i<m.length->i≠T.w->i≠T.nb->i≠T.r->M[i]?=m[i]?
 hw:M[T.w]?=some ⟨.fix,314,0,0,T.wC st⟩
 hn:M[T.nb]?=some ⟨.grow,255,st.2.length,16,ndL st.2⟩
 hr:M[T.r]?=some ⟨.grow,3,T.v,T.ez,iC st.1⟩
structure TbOk (T:TB)(prs:Nat->PR)(mid:Nat->V)(m:Ja1):Prop where
 lw:T.w<m.length
 ln:T.nb<m.length
 lr:T.r<m.length
 d1:T.w≠T.nb
 d2:T.w≠T.r
 d3:T.nb≠T.r
 d4:T.pb≠T.w/\T.pb≠T.nb/\T.pb≠T.r
 d5:T.mb≠T.w/\T.mb≠T.nb/\T.mb≠T.r
 hp:∃ k ez,m[T.pb]?=some ⟨k,234,T.pv,ez,Jb6 T.N (prF prs)⟩
 hm:∃ k ez,m[T.mb]?=some ⟨k,59,T.mv,ez,Jb6 T.N (vF mid)⟩
 n:T.N<=128
theorem Kr0 (m:Ja1)(T:TB)(st:List Nat × List ND):(tM m T st).length=m.length:=by unfold tM;rw [List.length_set,List.length_set,List.length_set]
theorem TmP.ext {T:TB}{prs:Nat->PR}{mid:Nat->V}{m M:Ja1}{st:List Nat × List ND}(h:TmP T prs mid m M st)(hT:TbOk T prs mid m):∃ L,M=tM m T st++L:=by
 refine ⟨M.drop m.length,List.ext_getElem? fun i=>?_⟩
 by_cases hi:i<m.length
 ·rw [List.getElem?_append_left (by rw [Kr0];exact hi)]
  unfold tM
  by_cases e1:i=T.r
  ·subst e1;rw [h.hr,List.getElem?_set_self (by rw [List.length_set,List.length_set];exact hi)]
  rw [List.getElem?_set_ne (by omega)]
  by_cases e2:i=T.nb
  ·subst e2;rw [h.hn,List.getElem?_set_self (by rw [List.length_set];exact hi)]
  rw [List.getElem?_set_ne (by omega)]
  by_cases e3:i=T.w
  ·subst e3;rw [h.hw,List.getElem?_set_self hi]
  rw [List.getElem?_set_ne (by omega)];exact h.old i hi e3 e2 e1
 rw [List.getElem?_append_right (by rw [Kr0];omega),Kr0,List.getElem?_drop]
 congr 1;omega
theorem TmP.mk' {T:TB}{prs:Nat->PR}{mid:Nat->V}{m M:Ja1}{st:List Nat × List ND}(h:TmP T prs mid m M st)(hT:TbOk T prs mid m):MkAt M T.w (.sl T.nb st.2.length 0 st.2.length) (.sl T.r T.v 0 st.1.length) T.pb T.pv T.N T.mb T.mv prs mid where
 hw:=h.hw
 hp:=by obtain ⟨k,e,q⟩:=hT.hp;exact ⟨k,e,by rw [h.old _ (Jb2 q) hT.d4.1 hT.d4.2.1 hT.d4.2.2];exact q⟩
 hm:=by obtain ⟨k,e,q⟩:=hT.hm;exact ⟨k,e,by rw [h.old _ (Jb2 q) hT.d5.1 hT.d5.2.1 hT.d5.2.2];exact q⟩
 n:=hT.n
theorem TmP.ok {T:TB}{prs:Nat->PR}{mid:Nat->V}{m M:Ja1}{st:List Nat × List ND}(h:TmP T prs mid m M st)(hT:TbOk T prs mid m):TbOk T prs mid M where
 lw:=Nat.lt_of_lt_of_le hT.lw h.len
 ln:=Nat.lt_of_lt_of_le hT.ln h.len
 lr:=Nat.lt_of_lt_of_le hT.lr h.len
 d1:=hT.d1
 d2:=hT.d2
 d3:=hT.d3
 d4:=hT.d4
 d5:=hT.d5
 hp:=(h.mk' hT).hp
 hm:=(h.mk' hT).hm
 n:=hT.n
theorem TmP.app {T:TB}{prs:Nat->PR}{mid:Nat->V}{m M:Ja1}{st:List Nat × List ND}(h:TmP T prs mid m M st)(hT:TbOk T prs mid m)(L:Ja1):TmP T prs mid m (M++L) st where
 len:=by rw [List.length_append];have:=h.len;omega
 old:=fun i hi h1 h2 h3=>by rw [List.getElem?_append_left (Nat.lt_of_lt_of_le hi h.len)];exact h.old i hi h1 h2 h3
 hw:=Ja5 h.hw L
 hn:=Ja5 h.hn L
 hr:=Ja5 h.hr L
theorem TmP.put {T:TB}{prs:Nat->PR}{mid:Nat->V}{m M:Ja1}{st:List Nat × List ND}(h:TmP T prs mid m M st)(hT:TbOk T prs mid m)(st':List Nat × List ND):TmP T prs mid m (tM M T st') st' where
 len:=by rw [Kr0];exact h.len
 old:=fun i hi h1 h2 h3=>by
  unfold tM
  rw [List.getElem?_set_ne (by omega),List.getElem?_set_ne (by omega),List.getElem?_set_ne (by omega)]
  exact h.old i hi h1 h2 h3
 hw:=by
  have:=(h.ok hT).lw
  unfold tM
  rw [List.getElem?_set_ne (fun e=>hT.d2 e.symm),List.getElem?_set_ne (fun e=>hT.d1 e.symm),List.getElem?_set_self this]
 hn:=by
  have:=(h.ok hT).ln
  unfold tM
  rw [List.getElem?_set_ne (fun e=>hT.d3 e.symm),List.getElem?_set_self (by rw [List.length_set];exact this)]
 hr:=by
  have:=(h.ok hT).lr
  unfold tM
  rw [List.getElem?_set_self (by rw [List.length_set,List.length_set];exact this)]
theorem Ju2 {prs:Nat->PR}{mid:Nat->V}:∀ (f a b:Nat) (st:List Nat × List ND),b - a<=f->a<b->b<=st.1.length->(Jt0 prs mid f a b st).2.length+1<=st.2.length+2*(b - a)
 | 0,a,b,st,hf,hab,_=>by omega
 | f+1,a,b,(o,nds),hf,hab,hb=>by
  have hb':b<=o.length:=hb
  unfold Jt0
  by_cases h4:b - a<=4
  ·rw [if_pos h4];show (nds++[_]).length+1<=nds.length+2*(b - a);rw [List.length_append,List.length_singleton];omega
  rw [if_neg h4]
  have hsl:=Jf6 (a:=a) hb'
  obtain ⟨hperm,hm0,hm1⟩:=Kt3 (prs:=prs) (mid:=mid) (l:=Jk8 o a b) (by omega)
  obtain ⟨sp,hsp⟩:∃ sp,sp=Jm2 prs mid (Jk8 o a b):=⟨_,rfl⟩
  rw [<-hsp] at hperm hm0 hm1 ⊢
  rw [hsl] at hm1
  have hl1:sp.1.length=b - a:=by rw [hperm.length_eq,hsl]
  have ol1:(Jw3 o a b sp.1).length=o.length:=Kc5 (by omega) hb' hl1
  obtain ⟨s0,hs0⟩:∃ s0,s0=(Jw3 o a b sp.1,nds++[(⟨Jc3 prs (Jk8 o a b),-1,-1,0,0⟩:ND)]):=⟨_,rfl⟩
  have e1:s0.1.length=o.length:=by rw [hs0];exact ol1
  have e2:s0.2.length=nds.length+1:=by rw [hs0];simp
  dsimp only
  rw [<-hs0]
  have k1:=Ka2 (prs:=prs) (mid:=mid) f a (a+sp.2) s0 (by omega) (by omega) (by omega)
  have c1:=Ju2 (prs:=prs) (mid:=mid) f a (a+sp.2) s0 (by omega) (by omega) (by omega)
  have c2:=Ju2 (prs:=prs) (mid:=mid) f (a+sp.2) b (Jt0 prs mid f a (a+sp.2) s0) (by omega) (by omega) (by rw [k1.len];omega)
  rw [List.length_set]
  omega
theorem Qx8 {o o':List Nat}{a b N:Nat}(h:Vy0 o o' a b)(hl:o'.length=o.length)(hb:b<=o.length)(ho:∀ x,x<o.length->o.getD x 0<N):∀ x,x<o'.length->o'.getD x 0<N:=fun x hx=>by
 by_cases q:x<a\/b<=x
 ·rw [List.getD_eq_getElem?_getD,h.2 x q,<-List.getD_eq_getElem?_getD];exact ho x (by omega)
 have h1:=Kb7 (o:=o') (a:=a) (b:=b) (x:=x) (by omega) (by omega)
 have h2:o'.getD x 0 ∈ Jk8 o a b:=h.1.mem_iff.2 (List.mem_of_getElem? (by rw [h1,List.getD_eq_getElem?_getD,List.getElem?_eq_getElem hx];rfl))
 obtain ⟨k,hk,e⟩:=List.getElem_of_mem h2
 have h3:=Jw9 (o:=o) (a:=a) (b:=b) (i:=k) (by rw [Jf6 hb] at hk;omega)
 rw [List.getD_eq_getElem?_getD,List.getElem?_eq_getElem hk] at h3
 have h3:(Jk8 o a b)[k]=o.getD (a+k) 0:=h3
 rw [<-e,h3]
 exact ho _ (by rw [Jf6 hb] at hk;omega)
theorem Xr2 {o l:List Nat}{a b N:Nat}(hab:a<b)(hb:b<=o.length)(hp:l.Perm (Jk8 o a b))(ho:∀ x,x<o.length->o.getD x 0<N):∀ x,x<(Jw3 o a b l).length->(Jw3 o a b l).getD x 0<N:=by
 have hl:l.length=b - a:=by rw [hp.length_eq,Jf6 hb]
 refine Qx8 (a:=a) (b:=b) ⟨?_,fun x hx=>Qj7 hb (by omega) hl hx⟩ (Kc5 (by omega) hb hl) hb ho
 have e:Jk8 (Jw3 o a b l) a b=l:=by
  refine List.ext_getElem? fun i=>?_
  have ol:=Kc5 (o:=o) (a:=a) (b:=b) (by omega) hb hl
  by_cases hi:i<b - a
  ·have:=Kb7 (o:=Jw3 o a b l) (a:=a) (b:=b) (x:=a+i) (by omega) (by omega)
   rw [show a+i - a=i by omega] at this
   rw [this,Va6 hb (by omega) hl (by omega) (by omega),show a+i - a=i by omega]
  rw [List.getElem?_eq_none (by rw [Jf6 (by omega)];omega),List.getElem?_eq_none (by omega)]
 rw [e];exact hp.symm
theorem TmP.snoc {T:TB}{prs:Nat->PR}{mid:Nat->V}{m:Ja1}{o:List Nat}{nds:List ND}(hP:TmP T prs mid m m (o,nds))(hT:TbOk T prs mid m)(d:ND)(X:Ja1):TmP T prs mid m ((m.set T.nb ⟨.grow,255,nds.length+1,16,ndL nds++ndC d⟩).set T.w ⟨.fix,314,0,0,[.sl T.nb (nds.length+1) 0 (nds.length+1),.sl T.r T.v 0 o.length,.sl T.pb T.pv 0 T.N,.sl T.mb T.mv 0 T.N]⟩++X) (o,nds++[d]):=by
 have hl:(nds++[d]).length=nds.length+1:=by simp
 refine TmP.app ⟨by simp,fun i hi h1 h2 h3=>?_,?_,?_,?_⟩ hT X
 ·rw [List.getElem?_set_ne (by omega),List.getElem?_set_ne (by omega)]
 ·rw [List.getElem?_set_self (by rw [List.length_set];exact hT.lw)]
  show some _=some (Blk.mk _ _ _ _ [.sl T.nb (nds++[d]).length 0 (nds++[d]).length,_,_,_])
  rw [hl]
 ·rw [List.getElem?_set_ne hT.d1,List.getElem?_set_self hT.ln]
  show some _=some (Blk.mk _ _ (nds++[d]).length _ (ndL (nds++[d])))
  rw [hl,Vo2]
 rw [List.getElem?_set_ne hT.d2,List.getElem?_set_ne hT.d3];exact hP.hr
theorem TmP.two {T:TB}{prs:Nat->PR}{mid:Nat->V}{m M:Ja1}{o:List Nat}{ns:List ND}(hM:TmP T prs mid m M (o,ns))(hT:TbOk T prs mid m){i k1 k2 n:Nat}{d d1 d2:ND}{x1 x2:CV}(hn:ns.length=n)(hi:ns[i]?=some d)(hk1:k1<16)(hk2:k2<16)(h1:ndC d1=(ndC d).set k1 x1)(h2:ndC d2=(ndC d1).set k2 x2) :
  TmP T prs mid m ((M.set T.nb ⟨.grow,255,n,16,(ndL ns).set (i*16+k1) x1⟩).set T.nb ⟨.grow,255,n,16,((ndL ns).set (i*16+k1) x1).set (i*16+k2) x2⟩) (o,ns.set i d2):=by
 have hlt:=(List.getElem?_eq_some_iff.1 hi).1
 have e1:=Vc2 hi hk1 h1
 have e2:=Vc2 (l:=ns.set i d1) (List.getElem?_set_self hlt) hk2 h2
 rw [List.set_set] at e2
 rw [e1,e2,List.set_set]
 subst hn
 have hl:(ns.set i d2).length=ns.length:=List.length_set
 refine ⟨by rw [List.length_set];exact hM.len,fun j hj g1 g2 g3=>?_,?_,?_,?_⟩
 ·rw [List.getElem?_set_ne (by omega)];exact hM.old j hj g1 g2 g3
 ·rw [List.getElem?_set_ne (fun e=>hT.d1 e.symm),hM.hw]
  show some _=some (Blk.mk _ _ _ _ [.sl T.nb (ns.set i d2).length 0 (ns.set i d2).length,_,_,_])
  rw [hl];rfl
 ·rw [List.getElem?_set_self (hM.ok hT).ln]
  show some _=some (Blk.mk _ _ (ns.set i d2).length _ _)
  rw [hl]
 rw [List.getElem?_set_ne hT.d3];exact hM.hr
theorem Xo5 {m:Ja1}{T:TB}{prs:Nat->PR}{mid:Nat->V}(hT:TbOk T prs mid m)(h:MWf m.length m)(st:List Nat × List ND):MWf m.length (tM m T st):=by
 obtain ⟨_,_,q1⟩:=hT.hp
 obtain ⟨_,_,q2⟩:=hT.hm
 have l1:=Jb2 q1
 have l2:=Jb2 q2
 have l3:=hT.ln
 have l4:=hT.lr
 refine Js4 (Js4 (Js4 h ?_ rfl) (Jc1 _ (fun _=>rfl) _) rfl) (Jg9 _ _) rfl
 simp [TB.wC,CV.below];omega
theorem Vj7 {l:List ND}{d d':ND}:(l++[d]).set l.length d'=l++[d']:=by
 rw [List.set_append_right _ _ (Nat.le_refl _),Nat.sub_self];rfl
theorem Xf6 (T:TB)(prs:Nat->PR)(mid:Nat->V)(a b:Nat)(o:List Nat)(nds:List ND)(m:Ja1)(hT:TbOk T prs mid m)(hP:TmP T prs mid m m (o,nds))(hab:a<b)(hbo:b<=o.length)(ho:∀ x,x<o.length->o.getD x 0<T.N)(hol:o.length<=128)(hnd:nds.length<=1000)(h4:b - a<=4):Ctr Tryz.prog 184 [.one (.ptr T.w 0 0),.one (.int .i64 ((a:Int))),.one (.int .i64 ((b:Int)))] m (.one (.int .i64 (nds.length:Int))) (tM m T (o,nds++[⟨Jc3 prs (Jk8 o a b),-1,-1,(a:Int),((b - a:Nat):Int)⟩])):=by
 refine Ctr.en Tryz.func184 [.tmp 6] 96 fun hwf Q hQ=>?_
 obtain ⟨l,hl⟩:∃ l,l=Jk8 o a b:=⟨_,rfl⟩
 have hll:b - a=l.length:=by rw [hl,Jf6 hbo]
 have hw:m[T.w]?=some ⟨.fix,314,0,0,[.sl T.nb nds.length 0 nds.length,.sl T.r T.v 0 o.length,.sl T.pb T.pv 0 T.N,.sl T.mb T.mv 0 T.N]⟩:=hP.hw
 have hn:m[T.nb]?=some ⟨.grow,255,nds.length,16,ndL nds⟩:=hP.hn
 have hr:m[T.r]?=some ⟨.grow,3,T.v,T.ez,iC o⟩:=hP.hr
 have lw:=hT.lw
 have ln:=hT.ln
 have lr:=hT.lr
 have d1:=hT.d1
 have d2:=hT.d2
 have d3:=hT.d3
 have d1s:=d1.symm
 have d2s:=d2.symm
 have d3s:=d3.symm
 have hI:IdsAt m T.r T.v a l T.N:=by rw [hl];exact Kt2 ⟨_,_,hr⟩ (by omega) hbo ho hol
 have hMk:=hP.mk' hT
 dsimp only at hMk
 have h0:0<l.length:=by omega
 have ol:(iC o).length=o.length:=Jg8 _
 have nl:(ndL nds).length=nds.length*16:=Km3 _
 have n1:(0:Int)<=(a:Int):=by omega
 have n2:(a:Int)<=(b:Int):=by omega
 have n3:(b:Int)<=(o.length:Int):=by omega
 have q1:nds.length<=140737488355327:=by omega
 have q2:(nds.length+1)*128<=140737488355328:=by omega
 have hs1:∀ B (X:Ja1),(m++X).set T.nb B=m.set T.nb B++X:=fun B X=>List.set_append_left _ _ ln
 have hs2:∀ B (X:Ja1),(m++X).set T.w B=m.set T.w B++X:=fun B X=>List.set_append_left _ _ lw
 have hkw:∀ B (X:Ja1),(m.set T.nb B++X)[T.w]?=some ⟨.fix,314,0,0,[.sl T.nb nds.length 0 nds.length,.sl T.r T.v 0 o.length,.sl T.pb T.pv 0 T.N,.sl T.mb T.mv 0 T.N]⟩:=fun B X=>by rw [List.getElem?_append_left (by rw [List.length_set];exact lw),List.getElem?_set_ne d1s];exact hw
 have hs3:∀ B C (X:Ja1),(m.set T.nb B++X).set T.w C=(m.set T.nb B).set T.w C++X:=fun B C X=>List.set_append_left _ _ (by rw [List.length_set];exact lw)
 have hlt0:∀ k,¬m.length+k<m.length:=fun k=>by omega
 rw [<-hl,hll] at hQ
 have h4i:(l.length:Int)<=4:=by omega
 have U1:=ca4 hw (Ja5 hw) hn (ca4 (Ja5 hn) hr (Ja5 hr) (ca4 ol nl n1 (ca4 n2 n3 q1 (ca4 q2 hs1 hs2 (ca4 hkw hs3 d1 (ca4 d2 d3 d1s (ca4 d2s d3s hll (ca4 @Kg9 @Je8 @Ja4 h4i))))))))
 refine AW.c 3 U1 Tru ?_
 refine AW.d [.val,.val,.val,.val,.val,.rd 0,.val,.val,.ext,.val,.ext,.wr,.val,.val,.val,.wr] fol U1 (Ki8 T.w (.sl T.nb nds.length 0 nds.length) (.sl T.r T.v 0 o.length) T.pb T.pv T.N T.mb T.mv prs mid T.r T.v a l _ hMk hI h0) ?_
 refine AW.q fun K J0=>?_
 refine AW.anyMemG (fun M=>TmP T prs mid m M (o,nds++[(⟨Jc3 prs l,-1,-1,0,0⟩:ND)])) (hP.snoc hT (⟨Jc3 prs l,-1,-1,0,0⟩:ND) _) fun M hM=>?_
 have hwM:M[T.w]?=some ⟨.fix,314,0,0,[.sl T.nb (nds++[(⟨Jc3 prs l,-1,-1,0,0⟩:ND)]).length 0 (nds++[(⟨Jc3 prs l,-1,-1,0,0⟩:ND)]).length,.sl T.r T.v 0 o.length,.sl T.pb T.pv 0 T.N,.sl T.mb T.mv 0 T.N]⟩:=hM.hw
 have hnM:M[T.nb]?=some ⟨.grow,255,(nds++[(⟨Jc3 prs l,-1,-1,0,0⟩:ND)]).length,16,ndL (nds++[(⟨Jc3 prs l,-1,-1,0,0⟩:ND)])⟩:=hM.hn
 have hnl:(nds++[(⟨Jc3 prs l,-1,-1,0,0⟩:ND)]).length=nds.length+1:=by simp
 rw [hnl] at hwM hnM
 have hML:(ndL (nds++[(⟨Jc3 prs l,-1,-1,0,0⟩:ND)])).length=(nds.length+1)*16:=by rw [Km3,hnl]
 have hMl:=hM.len
 have hkn:∀ B,(M.set T.nb B)[T.nb]?=some B:=fun B=>List.getElem?_set_self (by omega)
 have hkW:∀ B,(M.set T.nb B)[T.w]?=M[T.w]?:=fun B=>List.getElem?_set_ne d1s
 have u1:(0:Int)<=(nds.length:Int):=by omega
 have u2:(nds.length:Int)<(nds.length:Int)+1:=by omega
 have u3:nds.length*16+16<=(nds.length+1)*16:=by omega
 have u4:nds.length<nds.length+1:=by omega
 have u5:nds.length*16+15<=(nds.length+1)*16:=by omega
 refine AW.c 1 U1 Tru ?_
 apply AW.y rfl
 have U2:=ca4 U1 hwM hnM (ca4 hML hkn hkW (ca4 u1 u2 u3 (ca2 u4 u5)))
 refine AW.d [.val,.val,.val,.val,.rd 0,.val,.val,.val,.val,.val,.rd 0,.val,.val,.val,.val,.val,.val,.wr,.val,.val,.wr] fol U2 Tru ?_
 refine AW.anyMemG (fun M=>∃ L,M=tM m T (o,nds++[(⟨Jc3 prs l,-1,-1,(a:Int),(l.length:Int)⟩:ND)])++L) ?_ fun M hM=>?_
 · have:=(hM.two hT (i:=nds.length) (k1:=14) (k2:=15) (x1:=.int .i64 (a:Int)) (x2:=.int .i64 (l.length:Int)) (d:=(⟨Jc3 prs l,-1,-1,0,0⟩:ND)) (d1:=⟨Jc3 prs l,-1,-1,(a:Int),0⟩) (d2:=(⟨Jc3 prs l,-1,-1,(a:Int),(l.length:Int)⟩:ND)) hnl (by rw [List.getElem?_append_right (Nat.le_refl _),Nat.sub_self];rfl) (by decide) (by decide) rfl rfl).ext hT
   rw [Vj7] at this
   exact this
 obtain ⟨L9,rfl⟩:=hM
 refine AW.c 1 U2 Tru ?_
 refine AW.ret ?_
 apply Jc8
 refine hQ _ _ _ ?_
 refine RetP.dropM (Kr0 _ _ _) (by first|exact Or.inr rfl|exact Or.inl rfl) ?_ ?_ (Xo5 hT hwf _)
 · (simp only [Jd0,Ja7,Jb5,AV.tv,push_cast,simprocAttr])<;>rfl
 rfl
theorem TmP.order {T:TB}{prs:Nat->PR}{mid:Nat->V}{m M:Ja1}{o o':List Nat}{ns:List ND}(h:TmP T prs mid m M (o,ns))(hT:TbOk T prs mid m)(ho:o'.length=o.length):TmP T prs mid m (M.set T.r ⟨.grow,3,T.v,T.ez,iC o'⟩) (o',ns) where
 len:=by rw [List.length_set];exact h.len
 old:=fun i hi h1 h2 h3=>by rw [List.getElem?_set_ne (by omega)];exact h.old i hi h1 h2 h3
 hw:=by
  rw [List.getElem?_set_ne (fun e=>hT.d2 e.symm),h.hw]
  show some (Blk.mk _ _ _ _ [_,.sl T.r T.v 0 o.length,_,_])=some (Blk.mk _ _ _ _ [_,.sl T.r T.v 0 o'.length,_,_])
  rw [ho]
 hn:=by rw [List.getElem?_set_ne (fun e=>hT.d3 e.symm)];exact h.hn
 hr:=List.getElem?_set_self (h.ok hT).lr
theorem TmP.self {T:TB}{prs:Nat->PR}{mid:Nat->V}{m M:Ja1}{st:List Nat × List ND}(h:TmP T prs mid m M st):TmP T prs mid M M st:=⟨Nat.le_refl _,fun _ _ _ _ _=>rfl,h.hw,h.hn,h.hr⟩
theorem Xf5 (T:TB)(prs:Nat->PR)(mid:Nat->V)(a b:Nat)(o:List Nat)(nds:List ND)(m:Ja1)(hT:TbOk T prs mid m)(hP:TmP T prs mid m m (o,nds))(hab:a<b)(hbo:b<=o.length)(ho:∀ x,x<o.length->o.getD x 0<T.N)(hol:o.length<=128)(f:Nat)(hf:b - a<=f+1)(hnd:nds.length+2*(b - a)<=1000)(h4:¬b - a<=4)(ih:∀ (a b:Nat) (st:List Nat × List ND) (m:Ja1),b - a<=f->a<b->b<=st.1.length->(∀ x,x<st.1.length->st.1.getD x 0<T.N)->st.1.length<=128->st.2.length+2*(b - a)<=1000->TbOk T prs mid m->TmP T prs mid m m st->Ctr Tryz.prog 184 [.one (.ptr T.w 0 0),.one (.int .i64 ((a:Int))),.one (.int .i64 ((b:Int)))] m (.one (.int .i64 (st.2.length:Int))) (tM m T (Jt0 prs mid f a b st))):Ctr Tryz.prog 184 [.one (.ptr T.w 0 0),.one (.int .i64 ((a:Int))),.one (.int .i64 ((b:Int)))] m (.one (.int .i64 (nds.length:Int))) (tM m T (Jt0 prs mid (f+1) a b (o,nds))):=by
 refine Ctr.en Tryz.func184 [.tmp 6] 96 fun hwf Q hQ=>?_
 obtain ⟨l,hl⟩:∃ l,l=Jk8 o a b:=⟨_,rfl⟩
 have hll:b - a=l.length:=by rw [hl,Jf6 hbo]
 have hw:m[T.w]?=some ⟨.fix,314,0,0,[.sl T.nb nds.length 0 nds.length,.sl T.r T.v 0 o.length,.sl T.pb T.pv 0 T.N,.sl T.mb T.mv 0 T.N]⟩:=hP.hw
 have hn:m[T.nb]?=some ⟨.grow,255,nds.length,16,ndL nds⟩:=hP.hn
 have hr:m[T.r]?=some ⟨.grow,3,T.v,T.ez,iC o⟩:=hP.hr
 have lw:=hT.lw
 have ln:=hT.ln
 have lr:=hT.lr
 have d1:=hT.d1
 have d2:=hT.d2
 have d3:=hT.d3
 have d1s:=d1.symm
 have d2s:=d2.symm
 have d3s:=d3.symm
 have hI:IdsAt m T.r T.v a l T.N:=by rw [hl];exact Kt2 ⟨_,_,hr⟩ (by omega) hbo ho hol
 have hMk:=hP.mk' hT
 dsimp only at hMk
 have h0:0<l.length:=by omega
 have ol:(iC o).length=o.length:=Jg8 _
 have nl:(ndL nds).length=nds.length*16:=Km3 _
 have n1:(0:Int)<=(a:Int):=by omega
 have n2:(a:Int)<=(b:Int):=by omega
 have n3:(b:Int)<=(o.length:Int):=by omega
 have q1:nds.length<=140737488355327:=by omega
 have q2:(nds.length+1)*128<=140737488355328:=by omega
 have hs1:∀ B (X:Ja1),(m++X).set T.nb B=m.set T.nb B++X:=fun B X=>List.set_append_left _ _ ln
 have hs2:∀ B (X:Ja1),(m++X).set T.w B=m.set T.w B++X:=fun B X=>List.set_append_left _ _ lw
 have hkw:∀ B (X:Ja1),(m.set T.nb B++X)[T.w]?=some ⟨.fix,314,0,0,[.sl T.nb nds.length 0 nds.length,.sl T.r T.v 0 o.length,.sl T.pb T.pv 0 T.N,.sl T.mb T.mv 0 T.N]⟩:=fun B X=>by rw [List.getElem?_append_left (by rw [List.length_set];exact lw),List.getElem?_set_ne d1s];exact hw
 have hs3:∀ B C (X:Ja1),(m.set T.nb B++X).set T.w C=(m.set T.nb B).set T.w C++X:=fun B C X=>List.set_append_left _ _ (by rw [List.length_set];exact lw)
 have hlt0:∀ k,¬m.length+k<m.length:=fun k=>by omega
 have h4i:¬(l.length:Int)<=4:=by omega
 obtain ⟨hperm,hm0,hm1⟩:=Kt3 (prs:=prs) (mid:=mid) (l:=l) (by omega)
 obtain ⟨sp,hsp⟩:∃ sp,sp=Jm2 prs mid l:=⟨_,rfl⟩
 rw [<-hsp] at hperm hm0 hm1
 have hlb:sp.1.length=b - a:=by rw [hperm.length_eq];omega
 have ol1:(Jw3 o a b sp.1).length=o.length:=Kc5 (by omega) hbo hlb
 have nl1:(nds++[(⟨Jc3 prs l,-1,-1,0,0⟩:ND)]).length=nds.length+1:=by simp
 obtain ⟨mm,hmm⟩:∃ mm,mm=a+sp.2:=⟨_,rfl⟩
 have hw7:IntKind.i64.wrap ((a:Int)+(sp.2:Int))=(mm:Int):=by rw [show (a:Int)+(sp.2:Int)=(mm:Int) by omega];exact wi (by omega)
 have k1:=Ka2 (prs:=prs) (mid:=mid) f a mm (Jw3 o a b sp.1,(nds++[(⟨Jc3 prs l,-1,-1,0,0⟩:ND)])) (by omega) (by omega) (by show _<=(Jw3 o a b sp.1).length;omega)
 have c1:=Ju2 (prs:=prs) (mid:=mid) f a mm (Jw3 o a b sp.1,(nds++[(⟨Jc3 prs l,-1,-1,0,0⟩:ND)])) (by omega) (by omega) (by show _<=(Jw3 o a b sp.1).length;omega)
 obtain ⟨s1,hs1e⟩:∃ s1,s1=Jt0 prs mid f a mm (Jw3 o a b sp.1,(nds++[(⟨Jc3 prs l,-1,-1,0,0⟩:ND)])):=⟨_,rfl⟩
 rw [<-hs1e] at k1 c1
 have sl1:s1.1.length=o.length:=k1.len.trans ol1
 have q5:(nds++[(⟨Jc3 prs l,-1,-1,0,0⟩:ND)]).length<s1.2.length:=k1.lt
 have c1':s1.2.length+1<=(nds++[(⟨Jc3 prs l,-1,-1,0,0⟩:ND)]).length+2*(mm - a):=c1
 have k2:=Ka2 (prs:=prs) (mid:=mid) f mm b s1 (by omega) (by omega) (by omega)
 have c2:=Ju2 (prs:=prs) (mid:=mid) f mm b s1 (by omega) (by omega) (by omega)
 obtain ⟨s2,hs2e⟩:∃ s2,s2=Jt0 prs mid f mm b s1:=⟨_,rfl⟩
 rw [<-hs2e] at k2 c2
 have q6:=k2.lt
 have ho1:∀ x,x<(Jw3 o a b sp.1).length->(Jw3 o a b sp.1).getD x 0<T.N:=Xr2 hab hbo (hl ▸ hperm) ho
 have ho2:∀ x,x<s1.1.length->s1.1.getD x 0<T.N:=Qx8 k1.same k1.len (by show _<=(Jw3 o a b sp.1).length;omega) ho1
 have hs2d:s2.2[nds.length]?=some (⟨Jc3 prs l,-1,-1,0,0⟩:ND):=by
   have g1:s1.2[nds.length]?=(nds++[(⟨Jc3 prs l,-1,-1,0,0⟩:ND)])[nds.length]?:=k1.pre nds.length (by show nds.length<(nds++[(⟨Jc3 prs l,-1,-1,0,0⟩:ND)]).length;omega)
   rw [k2.pre nds.length (by omega),g1,List.getElem?_append_right (Nat.le_refl _),Nat.sub_self];rfl
 have hfin:Jt0 prs mid (f+1) a b (o,nds)=(s2.1,s2.2.set nds.length (⟨Jc3 prs l,((nds.length+1:Nat):Int),((s1.2.length:Nat):Int),0,0⟩:ND)):=by
   rw [Jt0]
   rw [if_neg h4]
   dsimp only
   rw [<-hl,<-hsp,<-hmm,<-hs1e,<-hs2e]
 rw [hfin] at hQ
 have U1:=ca4 hw (Ja5 hw) hn (ca4 (Ja5 hn) hr (Ja5 hr) (ca4 ol nl n1 (ca4 n2 n3 q1 (ca4 q2 hs1 hs2 (ca4 hkw hs3 d1 (ca4 d2 d3 d1s (ca4 d2s d3s hll (ca4 @Kg9 @Je8 @Ja4 (ca2 h4i hw7)))))))))
 refine AW.c 3 U1 Tru ?_
 refine AW.d [.val,.val,.val,.val,.val,.rd 0,.val,.val,.ext,.val,.ext,.wr,.val,.val,.val,.wr] fol U1 (Ki8 T.w (.sl T.nb nds.length 0 nds.length) (.sl T.r T.v 0 o.length) T.pb T.pv T.N T.mb T.mv prs mid T.r T.v a l _ hMk hI h0) ?_
 refine AW.q fun K J0=>?_
 refine AW.anyMemG (fun M=>TmP T prs mid m M (o,(nds++[(⟨Jc3 prs l,-1,-1,0,0⟩:ND)]))) (hP.snoc hT (⟨Jc3 prs l,-1,-1,0,0⟩:ND) _) fun M hM=>?_
 have hMk1:=hM.mk' hT
 have hrM:M[T.r]?=some ⟨.grow,3,T.v,T.ez,iC o⟩:=hM.hr
 refine AW.c 1 U1 Tru ?_
 apply AW.x rfl
 apply AW.z
 apply J0
 have q_1:=Vz3 T.w _ _ T.pb T.pv T.N T.mb T.mv prs mid T.r T.v a b T.ez o l M hMk1 hrM hab hbo ho hol hl.symm
 rw [<-hsp] at q_1
 refine AW.c 1 U1 q_1 ?_
 refine AW.anyMemG (fun M1=>TmP T prs mid m M1 (Jw3 o a b sp.1,(nds++[(⟨Jc3 prs l,-1,-1,0,0⟩:ND)]))) (hM.order hT ol1) fun M1 hM1=>?_
 refine AW.sr 1 fun K J0=>?_
 simp only [push_cast,simprocAttr,U1]
 refine CThen.by (ih a mm (Jw3 o a b sp.1,(nds++[(⟨Jc3 prs l,-1,-1,0,0⟩:ND)])) _ (by omega) (by omega) (by show _<=(Jw3 o a b sp.1).length;omega) ho1 (by show (Jw3 o a b sp.1).length<=_;omega) (by show (nds++[(⟨Jc3 prs l,-1,-1,0,0⟩:ND)]).length+_<=_;omega) (hM1.ok hT) hM1.self) ?_
 simp only [push_cast,simprocAttr,U1]
 apply J0
 refine AW.anyMemG (fun M2=>TmP T prs mid m M2 s1) (hs1e ▸ hM1.put hT _) fun M2 hM2=>?_
 refine AW.c 1 U1 (ih mm b s1 _ (by omega) (by omega) (by omega) ho2 (by omega) (by omega) (hM2.ok hT) hM2.self) ?_
 refine AW.anyMemG (fun M3=>TmP T prs mid m M3 (s2.1,s2.2)) (hs2e ▸ hM2.put hT _) fun M3 hM3=>?_
 have hwM:M3[T.w]?=some ⟨.fix,314,0,0,[.sl T.nb s2.2.length 0 s2.2.length,.sl T.r T.v 0 s2.1.length,.sl T.pb T.pv 0 T.N,.sl T.mb T.mv 0 T.N]⟩:=hM3.hw
 have hnM:M3[T.nb]?=some ⟨.grow,255,s2.2.length,16,ndL s2.2⟩:=hM3.hn
 have hMl:=hM3.len
 have hML:(ndL s2.2).length=s2.2.length*16:=Km3 _
 have hkn:∀ B,(M3.set T.nb B)[T.nb]?=some B:=fun B=>List.getElem?_set_self (by omega)
 have hkW:∀ B,(M3.set T.nb B)[T.w]?=M3[T.w]?:=fun B=>List.getElem?_set_ne d1s
 have u1:(0:Int)<=(nds.length:Int):=by omega
 have u2:(nds.length:Int)<(s2.2.length:Int):=by omega
 have u3:nds.length*16+16<=s2.2.length*16:=by omega
 have u4:nds.length<s2.2.length:=by omega
 have u5:nds.length*16+15<=s2.2.length*16:=by omega
 have u6:nds.length*16+14<=s2.2.length*16:=by omega
 have u7:nds.length*16+13<=s2.2.length*16:=by omega
 have U2:=ca4 U1 hwM hnM (ca4 hML hkn hkW (ca4 u1 u2 u3 (ca4 u4 u5 u6 u7)))
 refine AW.d [.val,.val,.val,.val,.rd 0,.val,.val,.val,.val,.val,.rd 0,.val,.val,.val,.val,.val,.wr,.val,.val,.wr] fol U2 Tru ?_
 refine AW.anyMemG (fun M=>∃ L,M=tM m T (s2.1,s2.2.set nds.length (⟨Jc3 prs l,((nds.length+1:Nat):Int),((s1.2.length:Nat):Int),0,0⟩:ND))++L) ?_ fun M hM=>?_
 · exact (hM3.two hT (i:=nds.length) (k1:=12) (k2:=13) (x1:=.int .i64 ((nds.length+1:Nat):Int)) (x2:=.int .i64 ((s1.2.length:Nat):Int)) (d:=(⟨Jc3 prs l,-1,-1,0,0⟩:ND)) (d1:=(⟨Jc3 prs l,((nds.length+1:Nat):Int),-1,0,0⟩:ND)) (d2:=(⟨Jc3 prs l,((nds.length+1:Nat):Int),((s1.2.length:Nat):Int),0,0⟩:ND)) rfl hs2d (by decide) (by decide) rfl rfl).ext hT
 obtain ⟨L9,rfl⟩:=hM
 refine AW.c 1 U2 Tru ?_
 refine AW.ret ?_
 refine hQ _ _ _ ?_
 refine RetP.dropM (Kr0 _ _ _) (by first|exact Or.inr rfl|exact Or.inl rfl) ?_ ?_ (Xo5 hT hwf _)
 · (simp only [Jd0,Ja7,Jb5,AV.tv,push_cast,simprocAttr])<;>rfl
 rfl
theorem Vw2 (T:TB)(prs:Nat->PR)(mid:Nat->V):∀ f,∀ (a b:Nat) (st:List Nat × List ND) (m:Ja1),b - a<=f->a<b->b<=st.1.length->(∀ x,x<st.1.length->st.1.getD x 0<T.N)->st.1.length<=128->st.2.length+2*(b - a)<=1000->TbOk T prs mid m->TmP T prs mid m m st->Ctr Tryz.prog 184 [.one (.ptr T.w 0 0),.one (.int .i64 ((a:Int))),.one (.int .i64 ((b:Int)))] m (.one (.int .i64 (st.2.length:Int))) (tM m T (Jt0 prs mid f a b st))
 | 0,a,b,st,m,hf,hab,_,_,_,_,_,_=>by omega
 | f+1,a,b,(o,nds),m,hf,hab,hbo,ho,hol,hnd,hT,hP=>by
  have hnd':nds.length+2*(b - a)<=1000:=hnd
  by_cases h4:b - a<=4
  ·have e:Jt0 prs mid (f+1) a b (o,nds)=(o,nds++[⟨Jc3 prs (Jk8 o a b),-1,-1,(a:Int),((b - a:Nat):Int)⟩]):=by rw [Jt0];exact if_pos h4
   rw [e]
   exact Xf6 T prs mid a b o nds m hT hP hab hbo ho hol (by omega) h4
  exact Xf5 T prs mid a b o nds m hT hP hab hbo ho hol f hf hnd' h4 (Vw2 T prs mid f)
theorem Vn9 (prs:Nat->PR)(rb rv n:Nat)(m:Ja1)(hb:∃ k ez,m[rb]?=some ⟨k,234,rv,ez,Jb6 n (prF prs)⟩)(h0:0<n)(hn:n<=128):Ctr Tryz.prog 181 [.one (.sl rb rv 0 n)] m (.one (.sl m.length 0 0 n)) (m++[⟨.grow,234,0,12,Jb6 n (prF prs)⟩]):=by
 refine Ctr.en Tryz.func181 [.tmp 2] 8 fun hwf Q hQ=>?_
 obtain ⟨k0,e0,hb⟩:=hb
 have lb:=Jb2 hb
 have bl:(Jb6 n (prF prs)).length=n*12:=Ja9 (w:=12) (F:=prF prs) (fun _=>rfl) _
 have bv:(Jb6 n (prF prs)).all CV.isVal=true:=Jc1 _ (fun _=>rfl) _
 have bt:List.take (n*12) (Jb6 n (prF prs))=Jb6 n (prF prs):=List.take_of_length_le (by omega)
 have q1:n<=140737488355327:=by omega
 have q4:n<=140737488355328:=by omega
 have q2:n*96<=140737488355328:=by omega
 have q3:n*12<=140737488355328:=by omega
 have hlt0:∀ k,¬m.length+k<m.length:=fun k=>by omega
 have U1:=ca4 hb (Ja5 hb) bl (ca4 bv bt q1 (ca4 q2 q3 q4 h0))
 refine AW.c 1 U1 Tru ?_
 refine AW.q fun K J0=>?_
 refine AW.c 1 U1 Tru ?_
 apply AW.x rfl
 apply AW.z
 apply J0
 refine AW.c 1 U1 Tru ?_
 refine AW.ret ?_
 refine hQ _ _ _ ?_
 refine RetP.pick [(m.length,1)] (by first|exact Or.inr rfl|exact Or.inl rfl) ?_ ?_ ?_ hwf ?_
 · simp only [Jd0,Ja7,Jb5,AV.tv,push_cast,simprocAttr]
   simp [Kq2,Ku7,Ke8,Jw2,Ji8,hlt0]
 · (simp only [Jp9,push_cast,simprocAttr])<;>rfl
 · simp [Jd1]
 exact Ja0 (Jc1 _ (fun _=>rfl) _) Jb7
theorem Qq8 (m:Ja1):Ctr Tryz.prog 181 [.one .nils] m (.one .nils) m:=by
 refine Ctr.en Tryz.func181 [.tmp 2] 8 fun hwf Q hQ=>?_
 refine AW.c 1 Tru Tru ?_
 refine AW.q fun K J0=>?_
 refine AW.c 1 Tru Tru ?_
 apply AW.y rfl
 refine AW.c 1 Tru Tru ?_
 exact AW.ret (hQ _ _ _ (RetP.z hwf Tru))
theorem Qw3 (m:Ja1):Ctr Tryz.prog 102 [.one .nils] m (.agg [.nils,.nils]) m:=by
 refine Ctr.en Tryz.func102 [.cell 2 125] 59 fun hwf Q hQ=>?_
 refine AW.c 2 Tru Qq8 ?_
 refine AW.q fun K J0=>?_
 refine AW.c 1 Tru Tru ?_
 apply AW.y rfl
 refine AW.c 1 Tru Tru ?_
 exact AW.ret (hQ _ _ _ (RetP.z hwf Tru))
def Qu4 (prs:Nat->PR)(i:Nat):V:=Xs2 (Jq3 (prs i))
def Jj0 (prs:Nat->PR)(n:Nat):List Nat × List ND:=Jt0 prs (Qu4 prs) n 0 n (List.range n,[])
theorem Vz0 (prs:Nat->PR)(rb rv n:Nat)(m:Ja1)(hb:∃ k ez,m[rb]?=some ⟨k,234,rv,ez,Jb6 n (prF prs)⟩)(h0:0<n)(hn:n<=128):Ctr Tryz.prog 102 [.one (.sl rb rv 0 n)] m (.agg [.sl m.length 0 0 (Jj0 prs n).2.length,.sl (m.length+1) 0 0 n]) (m++[⟨.grow,255,0,16,ndL (Jj0 prs n).2⟩,⟨.grow,3,0,1,iC (Jj0 prs n).1⟩]):=by
 refine Ctr.en Tryz.func102 [.cell 2 125] 59 fun hwf Q hQ=>?_
 obtain ⟨k0,e0,hb⟩:=hb
 have lb:=Jb2 hb
 have bl:(Jb6 n (prF prs)).length=n*12:=Ja9 (w:=12) (F:=prF prs) (fun _=>rfl) _
 have bv:(Jb6 n (prF prs)).all CV.isVal=true:=Jc1 _ (fun _=>rfl) _
 have bt:List.take (n*12) (Jb6 n (prF prs))=Jb6 n (prF prs):=List.take_of_length_le (by omega)
 have q1:n<=140737488355327:=by omega
 have q4:n<=140737488355328:=by omega
 have q2:n*96<=140737488355328:=by omega
 have q3:n*12<=140737488355328:=by omega
 have hlt0:∀ k,¬m.length+k<m.length:=fun k=>by omega
 have e1:((n:Int) ==0)=false:=by simp;omega
 have e2:¬(128:Int)<(n:Int):=by omega
 have hst:(Jj0 prs n).1.length=n:=(Ka2 (prs:=prs) (mid:=Qu4 prs) n 0 n (List.range n,[]) (by omega) h0 (by simp)).len.trans List.length_range
 refine AW.sr 2 fun K J0=>?_
 have U2:=ca4 hb (Ja5 hb) h0 (ca2 e1 e2)
 simp only [push_cast,simprocAttr,bl,U2]
 refine CThen.by (Vn9 prs rb rv n _ ⟨k0,e0,Ja5 hb _⟩ h0 hn) ?_
 simp only [push_cast,simprocAttr,bl,U2]
 apply J0
 refine AW.q fun K J0=>?_
 refine AW.sr 1 fun K J1=>?_
 simp only [push_cast,simprocAttr,bl,U2]
 apply J1
 apply AW.x rfl
 apply AW.z
 apply J0
 refine AW.q fun K J0=>?_
 refine AW.sr 1 fun K J1=>?_
 simp only [push_cast,simprocAttr,bl,U2]
 apply J1
 apply AW.b
 refine AW.nilCell 255 16 (m.length+2) 0 (by simp only [push_cast,simprocAttr,bl,U2];first|done|rfl) (by intro e;cases e) rfl ?_
 try simp only [push_cast,simprocAttr,bl,U2]
 refine AW.nilCell 3 1 (m.length+2) 1 (by simp only [push_cast,simprocAttr,bl,U2];first|done|rfl) (by intro e;cases e) rfl ?_
 try simp only [push_cast,simprocAttr,bl,U2]
 refine AW.nilCell 59 3 (m.length+2) 3 (by simp only [push_cast,simprocAttr,bl,U2];first|done|rfl) (by intro e;cases e) rfl ?_
 try simp only [push_cast,simprocAttr,bl,U2]
 refine AW.loopK [0,2,3,19,20] (fun i=>i<=n) (fun i=>[(21,.one (.int .i64 (i:Int)))]) (fun i=>[(m.length+2,⟨.fix,314,0,0,[.sl (m.length+3) 0 0 0,.sl (m.length+4) i 0 i,.sl (m.length+1) 0 0 n,.sl (m.length+5) i 0 i]⟩),(m.length+4,⟨.grow,3,i,1,iC (List.range i)⟩),(m.length+5,⟨.grow,59,i,3,Jb6 i (vF (Qu4 prs))⟩)]) (fun i=>n - i) 0 (by omega) ?_ ?_ fun i hi3=>?_
 · first|rfl|(simp only [KS,simprocAttr,Jb6,Int.natCast_zero,List.range_zero,iC,List.map_nil]<;>repeat' (first|rfl|apply And.intro))
 · (simp only [Ja2,push_cast,simprocAttr,Jb6,List.range_zero,iC,List.map_nil])<;>rfl
 try simp only [Jb1,Ja2,push_cast,simprocAttr,bl,U2]
 refine AW.sr 1 fun K J1=>?_
 simp only [push_cast,simprocAttr,bl,U2]
 apply J1
 refine AW.q fun K J1=>?_
 refine AW.cond rfl (fun h22=>?_) (fun h22=>?_)
 ·have hlt:i<n:=by have:=of_decide_eq_true h22;omega
  have c1:(0:Int)<=(i:Int):=by omega
  have c2:(i:Int)<(n:Int):=by omega
  have c1:(0:Int)<=(i:Int):=by omega
  have c2:(i:Int)<(n:Int):=by omega
  have c3:i*12+12<=n*12:=by omega
  have ga:=Jc0 (w:=12) (F:=prF prs) (fun _=>rfl) hlt
  have gx:=Va7 prs i
  have p1:i<=140737488355327:=by omega
  have p2:(i+1)*24<=140737488355328:=by omega
  have p3:(i+1)*8<=140737488355328:=by omega
  have gl1:(iC (List.range i)).length=i:=by rw [Jg8,List.length_range]
  have gl2:(Jb6 i (vF (Qu4 prs))).length=i*3:=Ja9 (w:=3) (F:=vF (Qu4 prs)) (fun _=>rfl) _
  have hap1:iC (List.range i)++[.int .i64 (i:Int)]=iC (List.range (i+1)):=by rw [Jx6,List.range_succ]
  have hap2:Jb6 i (vF (Qu4 prs))++[.int .i64 (Xs2 (Jq3 (prs i)) 0),.int .i64 (Xs2 (Jq3 (prs i)) 1),.int .i64 (Xs2 (Jq3 (prs i)) 2)]=Jb6 (i+1) (vF (Qu4 prs)):=rfl
  apply AW.z
  apply J1
  refine AW.q fun K J1=>?_
  apply AW.b
  refine AW.sr 2 fun K J2=>?_
  have U3:=ca4 U2 c1 c2 (ca4 c3 ga gx (ca4 p1 p2 p3 (ca3 gl1 gl2 hlt)))
  simp only [push_cast,simprocAttr,bl,prC,bxC,c3C,U3]
  apply J2
  refine AW.draw [.val,.val,.val,.val,.rd 0,.rd 0,.ext,.ext,.ext,.wr,.val,.val,.wr] fol (by decide) (by kernel_rfl) ?_
  simp only [push_cast,simprocAttr,bl,prC,bxC,c3C,U3]
  refine DCall.z (Qj6 (prs i) _) ?_
  simp only [push_cast,simprocAttr,bl,prC,bxC,c3C,U3]
  refine DCall.z (Vo6 (Jq3 (prs i)) _) ?_
  simp only [push_cast,simprocAttr,bl,prC,bxC,c3C,U3]
  refine DExt.by (by first|rfl|exact (List.append_nil _).symm|(simp only [List.append_assoc,List.cons_append,List.nil_append];rfl)) ?_
  simp only [push_cast,simprocAttr,bl,prC,bxC,c3C,U3]
  apply Ja8
  apply J1
  refine AW.rg ?_
  simp only [push_cast,simprocAttr,bl,prC,bxC,c3C,U3]
  apply Jc2
  have hwi:IntKind.i64.wrap ((i:Int)+1)=(i:Int)+1:=wi (by omega)
  refine ⟨i+1,by omega,by omega,?_⟩
  try simp only [Jb1,Ja2,push_cast,simprocAttr,bl,prC,bxC,c3C,U3,hwi,hap1,hap2]
  exact Weak.to (extra:=_) (by simp only [KS,simprocAttr,hwi,hap1,hap2]) (by first|rfl|(simp only [List.append_assoc,List.cons_append,List.nil_append];rfl)) (by first|rfl|(simp [AV.below,CV.below];done)|(simp [AV.below,CV.below];omega)) (by exact MWf.app (hwf.grow (by simp)) (Ja0 rfl (Ja0 (Jc1 _ (fun _=>rfl) _) (Ja0 (by simp [CV.below]) (Ja0 rfl (Ja0 (Jg9 _ _) (Ja0 (Jc1 _ (fun _=>rfl) _) Jb7)))))))
 have hin:i=n:=by have:=of_decide_eq_false h22;omega
 rw [hin]
 apply AW.v
 apply Jb0
 apply Jb0
 apply Ja6
 apply J0
 refine AW.sr 1 fun K J0=>?_
 simp only [push_cast,simprocAttr,bl,U2]
 refine CThen.by ((by have h:=Vw2 ⟨m.length+2,m.length+3,m.length+4,m.length+1,0,n,m.length+5,n,n,1⟩ prs (Qu4 prs) n 0 n (List.range n,[]);rw [show Jt0 prs (Qu4 prs) n 0 n (List.range n,[])=Jj0 prs n from rfl] at h;exact h _ (by omega) h0 (by simp) (fun x hx=>by simp at hx;simp [hx]) (by simpa using hn) (by simp;omega) ⟨by simp,by simp,by simp,by simp,by simp,by simp,by simp,by simp,⟨.grow,12,by rw [Jg1];rfl⟩,⟨.grow,3,by rw [Jg1];rfl⟩,hn⟩ ⟨Nat.le_refl _,fun _ _ _ _ _=>rfl,by rw [Jg1];simp [TB.wC],by rw [Jg1];rfl,by rw [Jg1];rfl⟩)) ?_
 simp only [push_cast,simprocAttr,bl,U2]
 apply J0
 refine AW.sr 1 fun K J0=>?_
 simp only [push_cast,simprocAttr,bl,U2,tM,TB.wC,hst]
 apply J0
 refine AW.ret ?_
 refine hQ _ _ _ ?_
 refine RetP.pick [(m.length+3,(Jj0 prs n).2.length),(m.length+4,n)] (by first|exact Or.inr rfl|exact Or.inl rfl) ?_ ?_ ?_ hwf ?_
 · simp only [Jd0,Ja7,Jb5,AV.tv,push_cast,simprocAttr]
   simp [Kq2,Ku7,Ke8,Jw2,Ji8,hlt0]
 · (simp only [Jp9,push_cast,simprocAttr])<;>rfl
 · simp [Jd1]
 exact Ja0 (Jc1 _ (fun _=>rfl) _) (Ja0 (Jg9 _ _) Jb7)
def mF (mv:Nat->MV)(i:Nat):List CV:=mvC (mv i)
theorem Xg5 (mv:Nat->MV)(i:Nat):mF mv i=[.int .i64 (mv i).A.kind,.int .i64 (mv i).A.paint,.int .i64 ((mv i).A.P 0 0),.int .i64 ((mv i).A.P 0 1),.int .i64 ((mv i).A.P 0 2),.int .i64 ((mv i).A.P 1 0),.int .i64 ((mv i).A.P 1 1),.int .i64 ((mv i).A.P 1 2),.int .i64 ((mv i).A.P 2 0),.int .i64 ((mv i).A.P 2 1),.int .i64 ((mv i).A.P 2 2),.int .i64 (mv i).A.r,.int .i64 (mv i).B.kind,.int .i64 (mv i).B.paint,.int .i64 ((mv i).B.P 0 0),.int .i64 ((mv i).B.P 0 1),.int .i64 ((mv i).B.P 0 2),.int .i64 ((mv i).B.P 1 0),.int .i64 ((mv i).B.P 1 1),.int .i64 ((mv i).B.P 1 2),.int .i64 ((mv i).B.P 2 0),.int .i64 ((mv i).B.P 2 1),.int .i64 ((mv i).B.P 2 2),.int .i64 (mv i).B.r]:=rfl
noncomputable def prM (mv:Nat->MV)(i:Nat):PR:=Kd8 (mv i)
theorem Vy1 (mv:Nat->MV)(rb rv n:Nat)(m:Ja1)(hb:∃ k ez,m[rb]?=some ⟨k,204,rv,ez,Jb6 n (mF mv)⟩)(hn:n<=128)(h0:0<n):Ctr Tryz.prog 36 [.one (.sl rb rv 0 n)] m (.agg [.sl m.length 0 0 (Jj0 (prM mv) n).2.length,.sl (m.length+1) 0 0 n,.sl (m.length+2) 0 0 n]) (m++[⟨.grow,255,0,16,ndL (Jj0 (prM mv) n).2⟩,⟨.grow,3,0,1,iC (Jj0 (prM mv) n).1⟩,⟨.grow,204,0,24,Jb6 n (mF mv)⟩]):=by
 refine Ctr.en Tryz.func36 [.cell 2 128] 27 fun hwf Q hQ=>?_
 obtain ⟨k0,e0,hb⟩:=hb
 have lb:=Jb2 hb
 have bl:(Jb6 n (mF mv)).length=n*24:=Ja9 (w:=24) (F:=mF mv) (fun _=>rfl) _
 have bv:(Jb6 n (mF mv)).all CV.isVal=true:=Jc1 _ (fun _=>rfl) _
 have bt:List.take (n*24) (Jb6 n (mF mv))=Jb6 n (mF mv):=List.take_of_length_le (by omega)
 have q1:n<=140737488355327:=by omega
 have q2:n*192<=140737488355328:=by omega
 have q3:n*24<=140737488355328:=by omega
 have q4:n<=140737488355328:=by omega
 have hlt0:∀ k,¬m.length+k<m.length:=fun k=>by omega
 have U1:=ca4 hb (Ja5 hb) bl (ca4 bv bt q1 (ca4 q2 q3 q4 h0))
 refine AW.c 3 U1 Tru ?_
 refine AW.q fun K J0=>?_
 refine AW.c 1 U1 Tru ?_
 apply AW.b
 refine AW.nilTm 234 12 3 rfl ?_
 try simp only [push_cast,simprocAttr,U1]
 refine AW.loopK [2,4,11,12] (fun i=>i<=n) (fun i=>[(3,.one (.sl (m.length+3) i 0 i)),(13,.one (.int .i64 (i:Int)))]) (fun i=>[(m.length+3,⟨.grow,234,i,12,Jb6 i (prF (prM mv))⟩)]) (fun i=>n - i) 0 (by omega) ?_ ?_ fun i hi2=>?_
 · first|rfl|(simp only [KS,simprocAttr,Jb6,Int.natCast_zero]<;>repeat' (first|rfl|apply And.intro))
 · (simp only [Ja2,push_cast,simprocAttr,Jb6])<;>rfl
 try simp only [Jb1,Ja2,push_cast,simprocAttr,U1]
 refine AW.c 1 U1 Tru ?_
 refine AW.q fun K J1=>?_
 refine AW.cond rfl (fun h14=>?_) (fun h14=>?_)
 ·have hlt:i<n:=by have:=of_decide_eq_true h14;omega
  have c1:(0:Int)<=(i:Int):=by omega
  have c2:(i:Int)<(n:Int):=by omega
  have c1:(0:Int)<=(i:Int):=by omega
  have c2:(i:Int)<(n:Int):=by omega
  have c3:i*24+24<=n*24:=by omega
  have ga:=Jc0 (w:=24) (F:=mF mv) (fun _=>rfl) hlt
  have gx:=Xg5 mv i
  have p1:i<=140737488355327:=by omega
  have p2:(i+1)*96<=140737488355328:=by omega
  have gl2:(Jb6 i (prF (prM mv))).length=i*12:=Ja9 (w:=12) (F:=prF (prM mv)) (fun _=>rfl) _
  have hap:Jb6 i (prF (prM mv))++[.int .i64 ((Kd8 (mv i)).a.lo 0),.int .i64 ((Kd8 (mv i)).a.lo 1),.int .i64 ((Kd8 (mv i)).a.lo 2),.int .i64 ((Kd8 (mv i)).a.hi 0),.int .i64 ((Kd8 (mv i)).a.hi 1),.int .i64 ((Kd8 (mv i)).a.hi 2),.int .i64 ((Kd8 (mv i)).b.lo 0),.int .i64 ((Kd8 (mv i)).b.lo 1),.int .i64 ((Kd8 (mv i)).b.lo 2),.int .i64 ((Kd8 (mv i)).b.hi 0),.int .i64 ((Kd8 (mv i)).b.hi 1),.int .i64 ((Kd8 (mv i)).b.hi 2)]=Jb6 (i+1) (prF (prM mv)):=rfl
  apply AW.z
  apply J1
  refine AW.q fun K J1=>?_
  apply AW.b
  have U2:=ca4 U1 c1 c2 (ca4 c3 ga gx (ca4 p1 p2 gl2 (ca4 hlt @Kg9 @Je8 @Ja4)))
  refine AW.c 1 U2 Tru ?_
  refine AW.g U2 (Vo4 (mv i)) ?_
  apply Ja8
  apply J1
  refine AW.g U2 Tru ?_
  apply Jc2
  have hwi:IntKind.i64.wrap ((i:Int)+1)=(i:Int)+1:=wi (by omega)
  refine ⟨i+1,by omega,by omega,?_⟩
  try simp only [Jb1,Ja2,push_cast,simprocAttr,U2,hwi,hap]
  exact Weak.to (extra:=_) (by simp only [KS,simprocAttr,hwi,hap]) (by first|rfl|(simp only [List.append_assoc,List.cons_append,List.nil_append];rfl)) (by first|rfl|(simp [AV.below,CV.below];done)|(simp [AV.below,CV.below];omega)) (by exact MWf.app (hwf.grow (by simp)) (Ja0 rfl (Ja0 (Jc1 _ (fun _=>rfl) _) (Ja0 (by simp [CV.below]) (Ja0 (Jc1 _ (fun _=>rfl) _) Jb7)))))
 have hin:i=n:=by have:=of_decide_eq_false h14;omega
 rw [hin]
 apply AW.v
 apply Jb0
 apply Jb0
 apply Ja6
 apply J0
 refine AW.sr 2 fun K J0=>?_
 simp only [push_cast,simprocAttr,U1]
 refine CThen.by (Vz0 (prM mv) (m.length+3) n n _ ⟨.grow,12,by rw [Jg1];rfl⟩ h0 hn) ?_
 simp only [push_cast,simprocAttr,U1]
 apply J0
 refine AW.ret ?_
 refine hQ _ _ _ ?_
 refine RetP.pick [(m.length+4,0),(m.length+5,0),(m.length+1,1)] (by first|exact Or.inr rfl|exact Or.inl rfl) ?_ ?_ ?_ hwf ?_
 · simp only [Jd0,Ja7,Jb5,AV.tv,push_cast,simprocAttr]
   simp [Kq2,Ku7,Ke8,Jw2,Ji8,hlt0]
 · (simp only [Jp9,push_cast,simprocAttr])<;>rfl
 · simp [Jd1]
 exact Ja0 (Jc1 _ (fun _=>rfl) _) (Ja0 (Jg9 _ _) (Ja0 (Jc1 _ (fun _=>rfl) _) Jb7))
theorem Vi7 (mv:Nat->MV)(rb rv n:Nat)(m:Ja1)(hb:∃ k ez,m[rb]?=some ⟨k,204,rv,ez,Jb6 n (mF mv)⟩)(hn:n<=128)(h0:n=0):Ctr Tryz.prog 36 [.one (.sl rb rv 0 n)] m (.agg [.nils,.nils,.sl m.length 0 0 n]) (m++[⟨.grow,204,0,24,Jb6 n (mF mv)⟩]):=by
 refine Ctr.en Tryz.func36 [.cell 2 128] 27 fun hwf Q hQ=>?_
 obtain ⟨k0,e0,hb⟩:=hb
 have lb:=Jb2 hb
 have bl:(Jb6 n (mF mv)).length=n*24:=Ja9 (w:=24) (F:=mF mv) (fun _=>rfl) _
 have bv:(Jb6 n (mF mv)).all CV.isVal=true:=Jc1 _ (fun _=>rfl) _
 have bt:List.take (n*24) (Jb6 n (mF mv))=Jb6 n (mF mv):=List.take_of_length_le (by omega)
 have q1:n<=140737488355327:=by omega
 have q2:n*192<=140737488355328:=by omega
 have q3:n*24<=140737488355328:=by omega
 have q4:n<=140737488355328:=by omega
 have hlt0:∀ k,¬m.length+k<m.length:=fun k=>by omega
 subst h0
 have U3:=ca4 hb (Ja5 hb) bl (ca4 bv bt q1 (ca3 q2 q3 q4))
 refine AW.c 3 U3 Tru ?_
 refine AW.q fun K J0=>?_
 refine AW.c 1 U3 Tru ?_
 apply AW.b
 refine AW.r 1 ?_
 refine ARounds.s fun K J1=>?_
 refine AW.c 1 U3 Tru ?_
 refine AW.q fun K J2=>?_
 apply AW.x rfl
 apply AW.v
 apply Jb0
 apply Jb0
 apply Ja6
 apply J0
 refine AW.c 2 U3 Qw3 ?_
 refine AW.ret ?_
 refine hQ _ _ _ ?_
 refine RetP.pick [(m.length+1,1)] (by first|exact Or.inr rfl|exact Or.inl rfl) ?_ ?_ ?_ hwf ?_
 · simp only [Jd0,Ja7,Jb5,AV.tv,push_cast,simprocAttr]
   simp [Kq2,Ku7,Ke8,Jw2,Ji8,hlt0]
 · (simp only [Jp9,push_cast,simprocAttr])<;>rfl
 · simp [Jd1]
 exact Ja0 (Jc1 _ (fun _=>rfl) _) Jb7
def Kh7 (a b:V):V:=Jb4 a (Je1 b (Je0 131072 (Je9 a b)))
def Kn9 (d n:V):V:=if 0<Je9 n d then Vi9 n else n
structure HT where
 (t i:Int) (p n:V)
def htC (h:HT):List CV:=.int .i64 h.t::.int .i64 h.i::(c3C h.p++c3C h.n)
def ht0:HT:=⟨0,0,z0V,z0V⟩
def ryC (r:RY):List CV:=c3C r.o++(c3C r.d++[.int .i64 r.part])
theorem Vv9 (r:RY):ryC r=[.int .i64 (r.o 0),.int .i64 (r.o 1),.int .i64 (r.o 2),.int .i64 (r.d 0),.int .i64 (r.d 1),.int .i64 (r.d 2),.int .i64 (r.part)]:=rfl
theorem Jh4 (r:RY):ryC r=(c3C r.o++(c3C r.d++[.int .i64 r.part])):=rfl
theorem Ky8 (r:RY)(t:Int)(m:Ja1):Ctr Tryz.prog 194 [.agg (ryC r),.one (.int .i64 t)] m (.agg (c3C (Je4 r t))) m:=by
 refine Ctr.en Tryz.func194 [.cell 4 59] 12 fun hwf Q hQ=>?_
 have U1:=ca2 @Jh4 @Ja4
 refine AW.c 1 U1 Tru ?_
 refine AW.d [.val,.rd 0,.val,.rd 0,.val,.ext,.ext,.wr] fol U1 (ca2 (Jv1 r.d t) (Qg8 r.o (Je1 r.d t))) ?_
 exact AW.ret (hQ _ _ _ (RetP.z hwf Tru))
theorem Ku2 (r:RY)(t:Int)(m:Ja1):Ctr Tryz.prog 241 [.agg (ryC r),.one (.int .i64 t)] m (.agg (c3C (Je4 r t))) m:=by
 refine Ctr.en Tryz.func241 [.cell 4 54] 12 fun hwf Q hQ=>?_
 have U2:=ca2 @Jh4 @Ja4
 refine AW.c 1 U2 Tru ?_
 refine AW.d [.val,.rd 0,.val,.rd 0,.val,.ext,.ext,.wr] fol U2 (ca2 (Jp8 r.d t) (Ju1 r.o (Je1 r.d t))) ?_
 exact AW.ret (hQ _ _ _ (RetP.z hwf Tru))
theorem Qa0 (r:RY)(a b:Int)(m:Ja1):Ctr Tryz.prog 125 [.agg (ryC r),.one (.int .i64 a),.one (.int .i64 b)] m (.agg (bxC (Jz7 r a b))) m:=by
 refine Ctr.en Tryz.func125 [.cell 6 232] 15 fun hwf Q hQ=>?_
 have U3:=ca3 @Jh4 @Je8 @Ja4
 refine AW.c 1 U3 Tru ?_
 refine AW.q fun K J0=>?_
 refine AW.draw [.rd 0,.val,.ext,.rd 0,.val,.ext,.ext,.ext,.wr] fol (by decide) (by kernel_rfl) ?_
 simp only [push_cast,simprocAttr,U3]
 refine DCall.z (Ky8 r a _) ?_
 simp only [push_cast,simprocAttr,U3]
 refine DCall.z (Ky8 r b _) ?_
 simp only [push_cast,simprocAttr,U3]
 refine DExt.by (by first|rfl|exact (List.append_nil _).symm|(simp only [List.append_assoc,List.cons_append,List.nil_append];rfl)) ?_
 simp only [push_cast,simprocAttr,U3]
 refine DCall.z ((by have h:=fun M r9 q=>Xk2 (Je4 r a) (fun _=>Je4 r b) r9 0 0 1 1 M q (by omega) (by omega);exact h _ _ ⟨.grow,3,by simp only [push_cast,simprocAttr];rfl⟩)) ?_
 simp only [push_cast,simprocAttr,U3]
 apply J0
 exact AW.ret (hQ _ _ _ (RetP.z hwf Tru))
theorem Kh6 (a b:V)(m:Ja1):Ctr Tryz.prog 135 [.agg (c3C a),.agg (c3C b)] m (.agg (c3C (Kh7 a b))) m:=by
 refine Ctr.en Tryz.func135 [.cell 4 59] 13 fun hwf Q hQ=>?_
 refine AW.c 1 @Ja4 Tru ?_
 refine AW.d [.rd 0,.rd 0,.rd 0,.rd 0,.ext,.ext,.ext,.ext,.wr] fol @Ja4 (ca4 (Jg7 a b) Jm7 (Jv1 b (Je0 131072 (Je9 a b))) (Jk4 a (Je1 b (Je0 131072 (Je9 a b))))) ?_
 exact AW.ret (hQ _ _ _ (RetP.z hwf Tru))
theorem Kc4 (a b:V)(m:Ja1):Ctr Tryz.prog 154 [.agg (c3C a),.agg (c3C b)] m (.agg (c3C (Kh7 a b))) m:=by
 refine Ctr.en Tryz.func154 [.cell 4 54] 13 fun hwf Q hQ=>?_
 refine AW.c 1 @Ja4 Tru ?_
 refine AW.d [.rd 0,.rd 0,.rd 0,.rd 0,.ext,.ext,.ext,.ext,.wr] fol @Ja4 (ca4 (Je3 a b) Jg6 (Jp8 b (Je0 131072 (Je9 a b))) (Jg3 a (Je1 b (Je0 131072 (Je9 a b))))) ?_
 exact AW.ret (hQ _ _ _ (RetP.z hwf Tru))
theorem Vr3 (r:RY)(n:V)(m:Ja1)(g:0<Je9 n r.d):Ctr Tryz.prog 236 [.agg (ryC r),.agg (c3C n)] m (.agg (c3C (Kn9 r.d n))) m:=by
 refine Ctr.en Tryz.func236 [.cell 4 59] 13 fun hwf Q hQ=>?_
 have hv:Kn9 r.d n=Vi9 n:=if_pos g
 rw [hv] at hQ
 have U4:=ca3 @Jh4 @Ja4 g
 refine AW.c 1 U4 Tru ?_
 refine AW.q fun K J0=>?_
 refine AW.c 1 U4 (Jg7 n r.d) ?_
 apply AW.y rfl
 refine AW.c 1 U4 (neg_v n) ?_
 exact AW.ret (hQ _ _ _ (RetP.z hwf Tru))
theorem Vr4 (r:RY)(n:V)(m:Ja1)(g:¬0<Je9 n r.d):Ctr Tryz.prog 236 [.agg (ryC r),.agg (c3C n)] m (.agg (c3C (Kn9 r.d n))) m:=by
 refine Ctr.en Tryz.func236 [.cell 4 59] 13 fun hwf Q hQ=>?_
 have hv:Kn9 r.d n=n:=if_neg g
 rw [hv] at hQ
 have U5:=ca3 @Jh4 @Ja4 g
 refine AW.c 1 U5 Tru ?_
 refine AW.q fun K J0=>?_
 refine AW.c 1 U5 (Jg7 n r.d) ?_
 apply AW.x rfl
 apply AW.z
 apply J0
 refine AW.c 1 U5 Tru ?_
 exact AW.ret (hQ _ _ _ (RetP.z hwf Tru))
theorem Kw4 (r:RY)(n:V)(m:Ja1):Ctr Tryz.prog 236 [.agg (ryC r),.agg (c3C n)] m (.agg (c3C (Kn9 r.d n))) m:=by
 by_cases g:0<Je9 n r.d
 ·exact Vr3 r n m g
 exact Vr4 r n m g
theorem Qz3 (r:RY)(n:V)(m:Ja1)(g:0<Je9 n r.d):Ctr Tryz.prog 242 [.agg (ryC r),.agg (c3C n)] m (.agg (c3C (Kn9 r.d n))) m:=by
 refine Ctr.en Tryz.func242 [.cell 4 54] 14 fun hwf Q hQ=>?_
 have hv:Kn9 r.d n=Vi9 n:=if_pos g
 rw [hv] at hQ
 have U6:=ca3 @Jh4 @Ja4 g
 refine AW.c 1 U6 Tru ?_
 refine AW.q fun K J0=>?_
 refine AW.c 1 U6 (Je3 n r.d) ?_
 apply AW.y rfl
 refine AW.c 1 U6 (Jg3 z0V n) ?_
 exact AW.ret (hQ _ _ _ (RetP.z hwf Tru))
theorem Qz4 (r:RY)(n:V)(m:Ja1)(g:¬0<Je9 n r.d):Ctr Tryz.prog 242 [.agg (ryC r),.agg (c3C n)] m (.agg (c3C (Kn9 r.d n))) m:=by
 refine Ctr.en Tryz.func242 [.cell 4 54] 14 fun hwf Q hQ=>?_
 have hv:Kn9 r.d n=n:=if_neg g
 rw [hv] at hQ
 have U7:=ca3 @Jh4 @Ja4 g
 refine AW.c 1 U7 Tru ?_
 refine AW.q fun K J0=>?_
 refine AW.c 1 U7 (Je3 n r.d) ?_
 apply AW.x rfl
 apply AW.z
 apply J0
 refine AW.c 1 U7 Tru ?_
 exact AW.ret (hQ _ _ _ (RetP.z hwf Tru))
theorem Kk7 (r:RY)(n:V)(m:Ja1):Ctr Tryz.prog 242 [.agg (ryC r),.agg (c3C n)] m (.agg (c3C (Kn9 r.d n))) m:=by
 by_cases g:0<Je9 n r.d
 ·exact Qz3 r n m g
 exact Qz4 r n m g
theorem Xt8 (b:BX)(q:V)(m:Ja1)(g0:q 0<b.lo 0):Ctr Tryz.prog 260 [.agg (bxC b),.agg (c3C q)] m (.one (.bool false)) m:=by
 refine Ctr.en Tryz.func260 [.tmp 4] 28 fun hwf Q hQ=>?_
 have U8:=ca4 @Je8 @Ja4 @decide_true (ca2 @decide_false g0)
 refine AW.c 1 U8 Tru ?_
 refine AW.q fun K J0=>?_
 refine AW.c 1 U8 Tru ?_
 apply AW.b
 refine AW.r 4 ?_
 refine ARounds.s fun K J1=>?_
 refine AW.c 1 U8 Tru ?_
 refine AW.ifT rfl ?_
 refine AW.q fun K J2=>?_
 apply AW.b
 refine AW.sr 3 fun K J3=>?_
 simp only [push_cast,simprocAttr,U8]
 refine CThen.by (Jc6 q _) ?_
 simp only [push_cast,simprocAttr,U8]
 refine CThen.by (Jc6 b.lo _) ?_
 simp only [push_cast,simprocAttr,U8]
 try (refine CThen.by (Jc6 b.hi _) ?_;simp only [push_cast,simprocAttr,U8])
 apply J3
 apply AW.y rfl
 refine AW.c 1 U8 Tru ?_
 exact AW.ret (hQ _ _ _ (RetP.z hwf U8))
theorem Xt7 (b:BX)(q:V)(m:Ja1)(g0:¬q 0<b.lo 0)(g1:b.hi 0<q 0):Ctr Tryz.prog 260 [.agg (bxC b),.agg (c3C q)] m (.one (.bool false)) m:=by
 refine Ctr.en Tryz.func260 [.tmp 4] 28 fun hwf Q hQ=>?_
 have U9:=ca4 @Je8 @Ja4 @decide_true (ca3 @decide_false g0 g1)
 refine AW.c 1 U9 Tru ?_
 refine AW.q fun K J0=>?_
 refine AW.c 1 U9 Tru ?_
 apply AW.b
 refine AW.r 4 ?_
 refine ARounds.s fun K J1=>?_
 refine AW.c 1 U9 Tru ?_
 refine AW.ifT rfl ?_
 refine AW.q fun K J2=>?_
 apply AW.b
 refine AW.sr 3 fun K J3=>?_
 simp only [push_cast,simprocAttr,U9]
 refine CThen.by (Jc6 q _) ?_
 simp only [push_cast,simprocAttr,U9]
 refine CThen.by (Jc6 b.lo _) ?_
 simp only [push_cast,simprocAttr,U9]
 try (refine CThen.by (Jc6 b.hi _) ?_;simp only [push_cast,simprocAttr,U9])
 apply J3
 apply AW.y rfl
 refine AW.c 1 U9 Tru ?_
 exact AW.ret (hQ _ _ _ (RetP.z hwf U9))
theorem Xt6 (b:BX)(q:V)(m:Ja1)(g0:¬q 0<b.lo 0)(g1:¬b.hi 0<q 0)(g2:q 1<b.lo 1):Ctr Tryz.prog 260 [.agg (bxC b),.agg (c3C q)] m (.one (.bool false)) m:=by
 refine Ctr.en Tryz.func260 [.tmp 4] 28 fun hwf Q hQ=>?_
 have U10:=ca4 @Je8 @Ja4 @decide_true (ca4 @decide_false g0 g1 g2)
 refine AW.c 1 U10 Tru ?_
 refine AW.q fun K J0=>?_
 refine AW.c 1 U10 Tru ?_
 apply AW.b
 refine AW.r 4 ?_
 refine ARounds.s fun K J1=>?_
 refine AW.c 1 U10 Tru ?_
 refine AW.ifT rfl ?_
 refine AW.q fun K J2=>?_
 apply AW.b
 refine AW.sr 3 fun K J3=>?_
 simp only [push_cast,simprocAttr,U10]
 refine CThen.by (Jc6 q _) ?_
 simp only [push_cast,simprocAttr,U10]
 refine CThen.by (Jc6 b.lo _) ?_
 simp only [push_cast,simprocAttr,U10]
 try (refine CThen.by (Jc6 b.hi _) ?_;simp only [push_cast,simprocAttr,U10])
 apply J3
 apply AW.x rfl
 apply AW.z
 apply Ja8
 apply J2
 refine AW.g U10 Tru ?_
 apply J1
 refine ARounds.s fun K J1=>?_
 refine AW.c 1 U10 Tru ?_
 refine AW.ifT rfl ?_
 refine AW.q fun K J2=>?_
 apply AW.b
 refine AW.sr 3 fun K J3=>?_
 simp only [push_cast,simprocAttr,U10]
 refine CThen.by (Jd5 q _) ?_
 simp only [push_cast,simprocAttr,U10]
 refine CThen.by (Jd5 b.lo _) ?_
 simp only [push_cast,simprocAttr,U10]
 try (refine CThen.by (Jd5 b.hi _) ?_;simp only [push_cast,simprocAttr,U10])
 apply J3
 apply AW.y rfl
 refine AW.c 1 U10 Tru ?_
 exact AW.ret (hQ _ _ _ (RetP.z hwf U10))
theorem Xt5 (b:BX)(q:V)(m:Ja1)(g0:¬q 0<b.lo 0)(g1:¬b.hi 0<q 0)(g2:¬q 1<b.lo 1)(g3:b.hi 1<q 1):Ctr Tryz.prog 260 [.agg (bxC b),.agg (c3C q)] m (.one (.bool false)) m:=by
 refine Ctr.en Tryz.func260 [.tmp 4] 28 fun hwf Q hQ=>?_
 have U11:=ca4 @Je8 @Ja4 @decide_true (ca4 @decide_false g0 g1 (ca2 g2 g3))
 refine AW.c 1 U11 Tru ?_
 refine AW.q fun K J0=>?_
 refine AW.c 1 U11 Tru ?_
 apply AW.b
 refine AW.r 4 ?_
 refine ARounds.s fun K J1=>?_
 refine AW.c 1 U11 Tru ?_
 refine AW.ifT rfl ?_
 refine AW.q fun K J2=>?_
 apply AW.b
 refine AW.sr 3 fun K J3=>?_
 simp only [push_cast,simprocAttr,U11]
 refine CThen.by (Jc6 q _) ?_
 simp only [push_cast,simprocAttr,U11]
 refine CThen.by (Jc6 b.lo _) ?_
 simp only [push_cast,simprocAttr,U11]
 try (refine CThen.by (Jc6 b.hi _) ?_;simp only [push_cast,simprocAttr,U11])
 apply J3
 apply AW.x rfl
 apply AW.z
 apply Ja8
 apply J2
 refine AW.g U11 Tru ?_
 apply J1
 refine ARounds.s fun K J1=>?_
 refine AW.c 1 U11 Tru ?_
 refine AW.ifT rfl ?_
 refine AW.q fun K J2=>?_
 apply AW.b
 refine AW.sr 3 fun K J3=>?_
 simp only [push_cast,simprocAttr,U11]
 refine CThen.by (Jd5 q _) ?_
 simp only [push_cast,simprocAttr,U11]
 refine CThen.by (Jd5 b.lo _) ?_
 simp only [push_cast,simprocAttr,U11]
 try (refine CThen.by (Jd5 b.hi _) ?_;simp only [push_cast,simprocAttr,U11])
 apply J3
 apply AW.y rfl
 refine AW.c 1 U11 Tru ?_
 exact AW.ret (hQ _ _ _ (RetP.z hwf U11))
theorem Xt4 (b:BX)(q:V)(m:Ja1)(g0:¬q 0<b.lo 0)(g1:¬b.hi 0<q 0)(g2:¬q 1<b.lo 1)(g3:¬b.hi 1<q 1)(g4:q 2<b.lo 2):Ctr Tryz.prog 260 [.agg (bxC b),.agg (c3C q)] m (.one (.bool false)) m:=by
 refine Ctr.en Tryz.func260 [.tmp 4] 28 fun hwf Q hQ=>?_
 have U12:=ca4 @Je8 @Ja4 @decide_true (ca4 @decide_false g0 g1 (ca3 g2 g3 g4))
 refine AW.c 1 U12 Tru ?_
 refine AW.q fun K J0=>?_
 refine AW.c 1 U12 Tru ?_
 apply AW.b
 refine AW.r 4 ?_
 refine ARounds.s fun K J1=>?_
 refine AW.c 1 U12 Tru ?_
 refine AW.ifT rfl ?_
 refine AW.q fun K J2=>?_
 apply AW.b
 refine AW.sr 3 fun K J3=>?_
 simp only [push_cast,simprocAttr,U12]
 refine CThen.by (Jc6 q _) ?_
 simp only [push_cast,simprocAttr,U12]
 refine CThen.by (Jc6 b.lo _) ?_
 simp only [push_cast,simprocAttr,U12]
 try (refine CThen.by (Jc6 b.hi _) ?_;simp only [push_cast,simprocAttr,U12])
 apply J3
 apply AW.x rfl
 apply AW.z
 apply Ja8
 apply J2
 refine AW.g U12 Tru ?_
 apply J1
 refine ARounds.s fun K J1=>?_
 refine AW.c 1 U12 Tru ?_
 refine AW.ifT rfl ?_
 refine AW.q fun K J2=>?_
 apply AW.b
 refine AW.sr 3 fun K J3=>?_
 simp only [push_cast,simprocAttr,U12]
 refine CThen.by (Jd5 q _) ?_
 simp only [push_cast,simprocAttr,U12]
 refine CThen.by (Jd5 b.lo _) ?_
 simp only [push_cast,simprocAttr,U12]
 try (refine CThen.by (Jd5 b.hi _) ?_;simp only [push_cast,simprocAttr,U12])
 apply J3
 apply AW.x rfl
 apply AW.z
 apply Ja8
 apply J2
 refine AW.g U12 Tru ?_
 apply J1
 refine ARounds.s fun K J1=>?_
 refine AW.c 1 U12 Tru ?_
 refine AW.ifT rfl ?_
 refine AW.q fun K J2=>?_
 apply AW.b
 refine AW.sr 3 fun K J3=>?_
 simp only [push_cast,simprocAttr,U12]
 refine CThen.by (Jf9 q _) ?_
 simp only [push_cast,simprocAttr,U12]
 refine CThen.by (Jf9 b.lo _) ?_
 simp only [push_cast,simprocAttr,U12]
 try (refine CThen.by (Jf9 b.hi _) ?_;simp only [push_cast,simprocAttr,U12])
 apply J3
 apply AW.y rfl
 refine AW.c 1 U12 Tru ?_
 exact AW.ret (hQ _ _ _ (RetP.z hwf U12))
theorem Xt3 (b:BX)(q:V)(m:Ja1)(g0:¬q 0<b.lo 0)(g1:¬b.hi 0<q 0)(g2:¬q 1<b.lo 1)(g3:¬b.hi 1<q 1)(g4:¬q 2<b.lo 2)(g5:b.hi 2<q 2):Ctr Tryz.prog 260 [.agg (bxC b),.agg (c3C q)] m (.one (.bool false)) m:=by
 refine Ctr.en Tryz.func260 [.tmp 4] 28 fun hwf Q hQ=>?_
 have U13:=ca4 @Je8 @Ja4 @decide_true (ca4 @decide_false g0 g1 (ca4 g2 g3 g4 g5))
 refine AW.c 1 U13 Tru ?_
 refine AW.q fun K J0=>?_
 refine AW.c 1 U13 Tru ?_
 apply AW.b
 refine AW.r 4 ?_
 refine ARounds.s fun K J1=>?_
 refine AW.c 1 U13 Tru ?_
 refine AW.ifT rfl ?_
 refine AW.q fun K J2=>?_
 apply AW.b
 refine AW.sr 3 fun K J3=>?_
 simp only [push_cast,simprocAttr,U13]
 refine CThen.by (Jc6 q _) ?_
 simp only [push_cast,simprocAttr,U13]
 refine CThen.by (Jc6 b.lo _) ?_
 simp only [push_cast,simprocAttr,U13]
 try (refine CThen.by (Jc6 b.hi _) ?_;simp only [push_cast,simprocAttr,U13])
 apply J3
 apply AW.x rfl
 apply AW.z
 apply Ja8
 apply J2
 refine AW.g U13 Tru ?_
 apply J1
 refine ARounds.s fun K J1=>?_
 refine AW.c 1 U13 Tru ?_
 refine AW.ifT rfl ?_
 refine AW.q fun K J2=>?_
 apply AW.b
 refine AW.sr 3 fun K J3=>?_
 simp only [push_cast,simprocAttr,U13]
 refine CThen.by (Jd5 q _) ?_
 simp only [push_cast,simprocAttr,U13]
 refine CThen.by (Jd5 b.lo _) ?_
 simp only [push_cast,simprocAttr,U13]
 try (refine CThen.by (Jd5 b.hi _) ?_;simp only [push_cast,simprocAttr,U13])
 apply J3
 apply AW.x rfl
 apply AW.z
 apply Ja8
 apply J2
 refine AW.g U13 Tru ?_
 apply J1
 refine ARounds.s fun K J1=>?_
 refine AW.c 1 U13 Tru ?_
 refine AW.ifT rfl ?_
 refine AW.q fun K J2=>?_
 apply AW.b
 refine AW.sr 3 fun K J3=>?_
 simp only [push_cast,simprocAttr,U13]
 refine CThen.by (Jf9 q _) ?_
 simp only [push_cast,simprocAttr,U13]
 refine CThen.by (Jf9 b.lo _) ?_
 simp only [push_cast,simprocAttr,U13]
 try (refine CThen.by (Jf9 b.hi _) ?_;simp only [push_cast,simprocAttr,U13])
 apply J3
 apply AW.y rfl
 refine AW.c 1 U13 Tru ?_
 exact AW.ret (hQ _ _ _ (RetP.z hwf U13))
theorem Xt2 (b:BX)(q:V)(m:Ja1)(g0:¬q 0<b.lo 0)(g1:¬b.hi 0<q 0)(g2:¬q 1<b.lo 1)(g3:¬b.hi 1<q 1)(g4:¬q 2<b.lo 2)(g5:¬b.hi 2<q 2):Ctr Tryz.prog 260 [.agg (bxC b),.agg (c3C q)] m (.one (.bool true)) m:=by
 refine Ctr.en Tryz.func260 [.tmp 4] 28 fun hwf Q hQ=>?_
 have U14:=ca4 @Je8 @Ja4 @decide_true (ca4 @decide_false g0 g1 (ca4 g2 g3 g4 g5))
 refine AW.c 1 U14 Tru ?_
 refine AW.q fun K J0=>?_
 refine AW.c 1 U14 Tru ?_
 apply AW.b
 refine AW.r 4 ?_
 refine ARounds.s fun K J1=>?_
 refine AW.c 1 U14 Tru ?_
 refine AW.ifT rfl ?_
 refine AW.q fun K J2=>?_
 apply AW.b
 refine AW.sr 3 fun K J3=>?_
 simp only [push_cast,simprocAttr,U14]
 refine CThen.by (Jc6 q _) ?_
 simp only [push_cast,simprocAttr,U14]
 refine CThen.by (Jc6 b.lo _) ?_
 simp only [push_cast,simprocAttr,U14]
 try (refine CThen.by (Jc6 b.hi _) ?_;simp only [push_cast,simprocAttr,U14])
 apply J3
 apply AW.x rfl
 apply AW.z
 apply Ja8
 apply J2
 refine AW.g U14 Tru ?_
 apply J1
 refine ARounds.s fun K J1=>?_
 refine AW.c 1 U14 Tru ?_
 refine AW.ifT rfl ?_
 refine AW.q fun K J2=>?_
 apply AW.b
 refine AW.sr 3 fun K J3=>?_
 simp only [push_cast,simprocAttr,U14]
 refine CThen.by (Jd5 q _) ?_
 simp only [push_cast,simprocAttr,U14]
 refine CThen.by (Jd5 b.lo _) ?_
 simp only [push_cast,simprocAttr,U14]
 try (refine CThen.by (Jd5 b.hi _) ?_;simp only [push_cast,simprocAttr,U14])
 apply J3
 apply AW.x rfl
 apply AW.z
 apply Ja8
 apply J2
 refine AW.g U14 Tru ?_
 apply J1
 refine ARounds.s fun K J1=>?_
 refine AW.c 1 U14 Tru ?_
 refine AW.ifT rfl ?_
 refine AW.q fun K J2=>?_
 apply AW.b
 refine AW.sr 3 fun K J3=>?_
 simp only [push_cast,simprocAttr,U14]
 refine CThen.by (Jf9 q _) ?_
 simp only [push_cast,simprocAttr,U14]
 refine CThen.by (Jf9 b.lo _) ?_
 simp only [push_cast,simprocAttr,U14]
 try (refine CThen.by (Jf9 b.hi _) ?_;simp only [push_cast,simprocAttr,U14])
 apply J3
 apply AW.x rfl
 apply AW.z
 apply Ja8
 apply J2
 refine AW.g U14 Tru ?_
 apply J1
 refine ARounds.s fun K J1=>?_
 refine AW.c 1 U14 Tru ?_
 refine AW.q fun K J2=>?_
 apply AW.x rfl
 apply AW.v
 apply Jb0
 apply Jb0
 apply Ja6
 apply J0
 refine AW.c 1 U14 Tru ?_
 exact AW.ret (hQ _ _ _ (RetP.z hwf U14))
theorem has_c (b:BX)(q:V)(m:Ja1)(z:Bool)(hz:z=true↔Ka5 b q):Ctr Tryz.prog 260 [.agg (bxC b),.agg (c3C q)] m (.one (.bool z)) m:=by
 by_cases g0:q 0<b.lo 0
 ·obtain rfl:z=false:=by
   cases z with
   | false=>rfl
   | true=>have:=(hz.1 rfl) 0 (by omega);omega
  exact Xt8 b q m g0
 by_cases g1:b.hi 0<q 0
 ·obtain rfl:z=false:=by
   cases z with
   | false=>rfl
   | true=>have:=(hz.1 rfl) 0 (by omega);omega
  exact Xt7 b q m g0 g1
 by_cases g2:q 1<b.lo 1
 ·obtain rfl:z=false:=by
   cases z with
   | false=>rfl
   | true=>have:=(hz.1 rfl) 1 (by omega);omega
  exact Xt6 b q m g0 g1 g2
 by_cases g3:b.hi 1<q 1
 ·obtain rfl:z=false:=by
   cases z with
   | false=>rfl
   | true=>have:=(hz.1 rfl) 1 (by omega);omega
  exact Xt5 b q m g0 g1 g2 g3
 by_cases g4:q 2<b.lo 2
 ·obtain rfl:z=false:=by
   cases z with
   | false=>rfl
   | true=>have:=(hz.1 rfl) 2 (by omega);omega
  exact Xt4 b q m g0 g1 g2 g3 g4
 by_cases g5:b.hi 2<q 2
 ·obtain rfl:z=false:=by
   cases z with
   | false=>rfl
   | true=>have:=(hz.1 rfl) 2 (by omega);omega
  exact Xt3 b q m g0 g1 g2 g3 g4 g5
 obtain rfl:z=true:=hz.2 fun k hk=>by
  match k,hk with
  | 0,_=>omega
  | 1,_=>omega
  | 2,_=>omega
 exact Xt2 b q m g0 g1 g2 g3 g4 g5
theorem Xc9 (b:BX)(q:V)(m:Ja1)(g0:q 0<b.lo 0):Ctr Tryz.prog 264 [.agg (bxC b),.agg (c3C q)] m (.one (.bool false)) m:=by
 refine Ctr.en Tryz.func264 [.tmp 4] 28 fun hwf Q hQ=>?_
 have U15:=ca4 @Je8 @Ja4 @decide_true (ca2 @decide_false g0)
 refine AW.c 1 U15 Tru ?_
 refine AW.q fun K J0=>?_
 refine AW.c 1 U15 Tru ?_
 apply AW.b
 refine AW.r 4 ?_
 refine ARounds.s fun K J1=>?_
 refine AW.q fun K J2=>?_
 refine AW.c 1 U15 Tru ?_
 apply AW.y rfl
 apply AW.z
 apply J2
 refine AW.q fun K J2=>?_
 apply AW.b
 refine AW.d [.val,.val,.rd 0,.val,.val,.val,.rd 0,.val,.val,.val,.val,.rd 0,.val,.val,.val,.rd 0,.val,.val] fol U15 Tru ?_
 apply AW.y rfl
 refine AW.c 1 U15 Tru ?_
 exact AW.ret (hQ _ _ _ (RetP.z hwf U15))
theorem Xc8 (b:BX)(q:V)(m:Ja1)(g0:¬q 0<b.lo 0)(g1:b.hi 0<q 0):Ctr Tryz.prog 264 [.agg (bxC b),.agg (c3C q)] m (.one (.bool false)) m:=by
 refine Ctr.en Tryz.func264 [.tmp 4] 28 fun hwf Q hQ=>?_
 have U16:=ca4 @Je8 @Ja4 @decide_true (ca3 @decide_false g0 g1)
 refine AW.c 1 U16 Tru ?_
 refine AW.q fun K J0=>?_
 refine AW.c 1 U16 Tru ?_
 apply AW.b
 refine AW.r 4 ?_
 refine ARounds.s fun K J1=>?_
 refine AW.q fun K J2=>?_
 refine AW.c 1 U16 Tru ?_
 apply AW.y rfl
 apply AW.z
 apply J2
 refine AW.q fun K J2=>?_
 apply AW.b
 refine AW.d [.val,.val,.rd 0,.val,.val,.val,.rd 0,.val,.val,.val,.val,.rd 0,.val,.val,.val,.rd 0,.val,.val] fol U16 Tru ?_
 apply AW.y rfl
 refine AW.c 1 U16 Tru ?_
 exact AW.ret (hQ _ _ _ (RetP.z hwf U16))
theorem Xc7 (b:BX)(q:V)(m:Ja1)(g0:¬q 0<b.lo 0)(g1:¬b.hi 0<q 0)(g2:q 1<b.lo 1):Ctr Tryz.prog 264 [.agg (bxC b),.agg (c3C q)] m (.one (.bool false)) m:=by
 refine Ctr.en Tryz.func264 [.tmp 4] 28 fun hwf Q hQ=>?_
 have U17:=ca4 @Je8 @Ja4 @decide_true (ca4 @decide_false g0 g1 g2)
 refine AW.c 1 U17 Tru ?_
 refine AW.q fun K J0=>?_
 refine AW.c 1 U17 Tru ?_
 apply AW.b
 refine AW.r 4 ?_
 refine ARounds.s fun K J1=>?_
 refine AW.q fun K J2=>?_
 refine AW.c 1 U17 Tru ?_
 apply AW.y rfl
 apply AW.z
 apply J2
 refine AW.q fun K J2=>?_
 apply AW.b
 refine AW.d [.val,.val,.rd 0,.val,.val,.val,.rd 0,.val,.val,.val,.val,.rd 0,.val,.val,.val,.rd 0,.val,.val] fol U17 Tru ?_
 apply AW.x rfl
 apply AW.z
 apply Ja8
 apply J2
 refine AW.g U17 Tru ?_
 apply J1
 refine ARounds.s fun K J1=>?_
 refine AW.q fun K J2=>?_
 refine AW.c 1 U17 Tru ?_
 apply AW.y rfl
 apply AW.z
 apply J2
 refine AW.q fun K J2=>?_
 apply AW.b
 refine AW.d [.val,.val,.rd 0,.val,.val,.val,.rd 0,.val,.val,.val,.val,.rd 0,.val,.val,.val,.rd 0,.val,.val] fol U17 Tru ?_
 apply AW.y rfl
 refine AW.c 1 U17 Tru ?_
 exact AW.ret (hQ _ _ _ (RetP.z hwf U17))
theorem Xc6 (b:BX)(q:V)(m:Ja1)(g0:¬q 0<b.lo 0)(g1:¬b.hi 0<q 0)(g2:¬q 1<b.lo 1)(g3:b.hi 1<q 1):Ctr Tryz.prog 264 [.agg (bxC b),.agg (c3C q)] m (.one (.bool false)) m:=by
 refine Ctr.en Tryz.func264 [.tmp 4] 28 fun hwf Q hQ=>?_
 have U18:=ca4 @Je8 @Ja4 @decide_true (ca4 @decide_false g0 g1 (ca2 g2 g3))
 refine AW.c 1 U18 Tru ?_
 refine AW.q fun K J0=>?_
 refine AW.c 1 U18 Tru ?_
 apply AW.b
 refine AW.r 4 ?_
 refine ARounds.s fun K J1=>?_
 refine AW.q fun K J2=>?_
 refine AW.c 1 U18 Tru ?_
 apply AW.y rfl
 apply AW.z
 apply J2
 refine AW.q fun K J2=>?_
 apply AW.b
 refine AW.d [.val,.val,.rd 0,.val,.val,.val,.rd 0,.val,.val,.val,.val,.rd 0,.val,.val,.val,.rd 0,.val,.val] fol U18 Tru ?_
 apply AW.x rfl
 apply AW.z
 apply Ja8
 apply J2
 refine AW.g U18 Tru ?_
 apply J1
 refine ARounds.s fun K J1=>?_
 refine AW.q fun K J2=>?_
 refine AW.c 1 U18 Tru ?_
 apply AW.y rfl
 apply AW.z
 apply J2
 refine AW.q fun K J2=>?_
 apply AW.b
 refine AW.d [.val,.val,.rd 0,.val,.val,.val,.rd 0,.val,.val,.val,.val,.rd 0,.val,.val,.val,.rd 0,.val,.val] fol U18 Tru ?_
 apply AW.y rfl
 refine AW.c 1 U18 Tru ?_
 exact AW.ret (hQ _ _ _ (RetP.z hwf U18))
theorem Xc5 (b:BX)(q:V)(m:Ja1)(g0:¬q 0<b.lo 0)(g1:¬b.hi 0<q 0)(g2:¬q 1<b.lo 1)(g3:¬b.hi 1<q 1)(g4:q 2<b.lo 2):Ctr Tryz.prog 264 [.agg (bxC b),.agg (c3C q)] m (.one (.bool false)) m:=by
 refine Ctr.en Tryz.func264 [.tmp 4] 28 fun hwf Q hQ=>?_
 have U19:=ca4 @Je8 @Ja4 @decide_true (ca4 @decide_false g0 g1 (ca3 g2 g3 g4))
 refine AW.c 1 U19 Tru ?_
 refine AW.q fun K J0=>?_
 refine AW.c 1 U19 Tru ?_
 apply AW.b
 refine AW.r 4 ?_
 refine ARounds.s fun K J1=>?_
 refine AW.q fun K J2=>?_
 refine AW.c 1 U19 Tru ?_
 apply AW.y rfl
 apply AW.z
 apply J2
 refine AW.q fun K J2=>?_
 apply AW.b
 refine AW.d [.val,.val,.rd 0,.val,.val,.val,.rd 0,.val,.val,.val,.val,.rd 0,.val,.val,.val,.rd 0,.val,.val] fol U19 Tru ?_
 apply AW.x rfl
 apply AW.z
 apply Ja8
 apply J2
 refine AW.g U19 Tru ?_
 apply J1
 refine ARounds.s fun K J1=>?_
 refine AW.q fun K J2=>?_
 refine AW.c 1 U19 Tru ?_
 apply AW.y rfl
 apply AW.z
 apply J2
 refine AW.q fun K J2=>?_
 apply AW.b
 refine AW.d [.val,.val,.rd 0,.val,.val,.val,.rd 0,.val,.val,.val,.val,.rd 0,.val,.val,.val,.rd 0,.val,.val] fol U19 Tru ?_
 apply AW.x rfl
 apply AW.z
 apply Ja8
 apply J2
 refine AW.g U19 Tru ?_
 apply J1
 refine ARounds.s fun K J1=>?_
 refine AW.q fun K J2=>?_
 refine AW.c 1 U19 Tru ?_
 apply AW.y rfl
 apply AW.z
 apply J2
 refine AW.q fun K J2=>?_
 apply AW.b
 refine AW.d [.val,.val,.rd 0,.val,.val,.val,.rd 0,.val,.val,.val,.val,.rd 0,.val,.val,.val,.rd 0,.val,.val] fol U19 Tru ?_
 apply AW.y rfl
 refine AW.c 1 U19 Tru ?_
 exact AW.ret (hQ _ _ _ (RetP.z hwf U19))
theorem Xc4 (b:BX)(q:V)(m:Ja1)(g0:¬q 0<b.lo 0)(g1:¬b.hi 0<q 0)(g2:¬q 1<b.lo 1)(g3:¬b.hi 1<q 1)(g4:¬q 2<b.lo 2)(g5:b.hi 2<q 2):Ctr Tryz.prog 264 [.agg (bxC b),.agg (c3C q)] m (.one (.bool false)) m:=by
 refine Ctr.en Tryz.func264 [.tmp 4] 28 fun hwf Q hQ=>?_
 have U20:=ca4 @Je8 @Ja4 @decide_true (ca4 @decide_false g0 g1 (ca4 g2 g3 g4 g5))
 refine AW.c 1 U20 Tru ?_
 refine AW.q fun K J0=>?_
 refine AW.c 1 U20 Tru ?_
 apply AW.b
 refine AW.r 4 ?_
 refine ARounds.s fun K J1=>?_
 refine AW.q fun K J2=>?_
 refine AW.c 1 U20 Tru ?_
 apply AW.y rfl
 apply AW.z
 apply J2
 refine AW.q fun K J2=>?_
 apply AW.b
 refine AW.d [.val,.val,.rd 0,.val,.val,.val,.rd 0,.val,.val,.val,.val,.rd 0,.val,.val,.val,.rd 0,.val,.val] fol U20 Tru ?_
 apply AW.x rfl
 apply AW.z
 apply Ja8
 apply J2
 refine AW.g U20 Tru ?_
 apply J1
 refine ARounds.s fun K J1=>?_
 refine AW.q fun K J2=>?_
 refine AW.c 1 U20 Tru ?_
 apply AW.y rfl
 apply AW.z
 apply J2
 refine AW.q fun K J2=>?_
 apply AW.b
 refine AW.d [.val,.val,.rd 0,.val,.val,.val,.rd 0,.val,.val,.val,.val,.rd 0,.val,.val,.val,.rd 0,.val,.val] fol U20 Tru ?_
 apply AW.x rfl
 apply AW.z
 apply Ja8
 apply J2
 refine AW.g U20 Tru ?_
 apply J1
 refine ARounds.s fun K J1=>?_
 refine AW.q fun K J2=>?_
 refine AW.c 1 U20 Tru ?_
 apply AW.y rfl
 apply AW.z
 apply J2
 refine AW.q fun K J2=>?_
 apply AW.b
 refine AW.d [.val,.val,.rd 0,.val,.val,.val,.rd 0,.val,.val,.val,.val,.rd 0,.val,.val,.val,.rd 0,.val,.val] fol U20 Tru ?_
 apply AW.y rfl
 refine AW.c 1 U20 Tru ?_
 exact AW.ret (hQ _ _ _ (RetP.z hwf U20))
theorem Xc3 (b:BX)(q:V)(m:Ja1)(g0:¬q 0<b.lo 0)(g1:¬b.hi 0<q 0)(g2:¬q 1<b.lo 1)(g3:¬b.hi 1<q 1)(g4:¬q 2<b.lo 2)(g5:¬b.hi 2<q 2):Ctr Tryz.prog 264 [.agg (bxC b),.agg (c3C q)] m (.one (.bool true)) m:=by
 refine Ctr.en Tryz.func264 [.tmp 4] 28 fun hwf Q hQ=>?_
 have U21:=ca4 @Je8 @Ja4 @decide_true (ca4 @decide_false g0 g1 (ca4 g2 g3 g4 g5))
 refine AW.c 1 U21 Tru ?_
 refine AW.q fun K J0=>?_
 refine AW.c 1 U21 Tru ?_
 apply AW.b
 refine AW.r 4 ?_
 refine ARounds.s fun K J1=>?_
 refine AW.q fun K J2=>?_
 refine AW.c 1 U21 Tru ?_
 apply AW.y rfl
 apply AW.z
 apply J2
 refine AW.q fun K J2=>?_
 apply AW.b
 refine AW.d [.val,.val,.rd 0,.val,.val,.val,.rd 0,.val,.val,.val,.val,.rd 0,.val,.val,.val,.rd 0,.val,.val] fol U21 Tru ?_
 apply AW.x rfl
 apply AW.z
 apply Ja8
 apply J2
 refine AW.g U21 Tru ?_
 apply J1
 refine ARounds.s fun K J1=>?_
 refine AW.q fun K J2=>?_
 refine AW.c 1 U21 Tru ?_
 apply AW.y rfl
 apply AW.z
 apply J2
 refine AW.q fun K J2=>?_
 apply AW.b
 refine AW.d [.val,.val,.rd 0,.val,.val,.val,.rd 0,.val,.val,.val,.val,.rd 0,.val,.val,.val,.rd 0,.val,.val] fol U21 Tru ?_
 apply AW.x rfl
 apply AW.z
 apply Ja8
 apply J2
 refine AW.g U21 Tru ?_
 apply J1
 refine ARounds.s fun K J1=>?_
 refine AW.q fun K J2=>?_
 refine AW.c 1 U21 Tru ?_
 apply AW.y rfl
 apply AW.z
 apply J2
 refine AW.q fun K J2=>?_
 apply AW.b
 refine AW.d [.val,.val,.rd 0,.val,.val,.val,.rd 0,.val,.val,.val,.val,.rd 0,.val,.val,.val,.rd 0,.val,.val] fol U21 Tru ?_
 apply AW.x rfl
 apply AW.z
 apply Ja8
 apply J2
 refine AW.g U21 Tru ?_
 apply J1
 refine ARounds.s fun K J1=>?_
 refine AW.q fun K J2=>?_
 refine AW.c 1 U21 Tru ?_
 apply AW.x rfl
 apply AW.v
 apply Jb0
 apply Jb0
 apply Ja6
 apply J0
 refine AW.c 1 U21 Tru ?_
 exact AW.ret (hQ _ _ _ (RetP.z hwf U21))
theorem Xq3 (b:BX)(q:V)(m:Ja1)(z:Bool)(hz:z=true↔Ka5 b q):Ctr Tryz.prog 264 [.agg (bxC b),.agg (c3C q)] m (.one (.bool z)) m:=by
 by_cases g0:q 0<b.lo 0
 ·obtain rfl:z=false:=by
   cases z with
   | false=>rfl
   | true=>have:=(hz.1 rfl) 0 (by omega);omega
  exact Xc9 b q m g0
 by_cases g1:b.hi 0<q 0
 ·obtain rfl:z=false:=by
   cases z with
   | false=>rfl
   | true=>have:=(hz.1 rfl) 0 (by omega);omega
  exact Xc8 b q m g0 g1
 by_cases g2:q 1<b.lo 1
 ·obtain rfl:z=false:=by
   cases z with
   | false=>rfl
   | true=>have:=(hz.1 rfl) 1 (by omega);omega
  exact Xc7 b q m g0 g1 g2
 by_cases g3:b.hi 1<q 1
 ·obtain rfl:z=false:=by
   cases z with
   | false=>rfl
   | true=>have:=(hz.1 rfl) 1 (by omega);omega
  exact Xc6 b q m g0 g1 g2 g3
 by_cases g4:q 2<b.lo 2
 ·obtain rfl:z=false:=by
   cases z with
   | false=>rfl
   | true=>have:=(hz.1 rfl) 2 (by omega);omega
  exact Xc5 b q m g0 g1 g2 g3 g4
 by_cases g5:b.hi 2<q 2
 ·obtain rfl:z=false:=by
   cases z with
   | false=>rfl
   | true=>have:=(hz.1 rfl) 2 (by omega);omega
  exact Xc4 b q m g0 g1 g2 g3 g4 g5
 obtain rfl:z=true:=hz.2 fun k hk=>by
  match k,hk with
  | 0,_=>omega
  | 1,_=>omega
  | 2,_=>omega
 exact Xc3 b q m g0 g1 g2 g3 g4 g5
theorem Vs7 (a:V)(r v:Nat)(m:Ja1)(hb:∃ k ez,m[r]?=some ⟨k,54,v,ez,c3C a⟩):Ctr Tryz.prog 272 [.one (.sl r v 0 1)] m (.tup [(true,c3C a),(true,c3C a)]) m:=by
 refine Ctr.en Tryz.func272 [.cell 2 54,.cell 3 54] 62 fun hwf Q hQ=>?_
 obtain ⟨k0,ez,hb⟩:=hb
 have lb:=Jb2 hb
 have U1:=ca3 hb (Ja5 hb) @Ja4
 refine AW.c 1 U1 Tru ?_
 refine AW.d [.val,.val,.rd 0,.val,.val,.rw 0,.ext,.fl,.wr,.wr] fol U1 Tru ?_
 refine AW.q fun K J0=>?_
 refine AW.c 1 U1 Tru ?_
 apply AW.b
 refine AW.r 1 ?_
 refine ARounds.s fun K J1=>?_
 refine AW.q fun K J2=>?_
 refine AW.c 1 U1 Tru ?_
 apply AW.x rfl
 apply AW.v
 apply Jb0
 apply Jb0
 apply Ja6
 apply J0
 refine AW.d [.rd 0,.rw 0,.wr,.wr] fol U1 Tru ?_
 exact AW.ret (hQ _ _ _ (RetP.z hwf Tru))
theorem Vs6 (a b c:V)(r v:Nat)(m:Ja1)(hb:∃ k ez,m[r]?=some ⟨k,54,v,ez,c3C a++(c3C b++c3C c)⟩):Ctr Tryz.prog 272 [.one (.sl r v 0 3)] m (.tup [(true,c3C (fun k=>minI (minI (a k) (b k)) (c k))),(true,c3C (fun k=>maxI (maxI (a k) (b k)) (c k)))]) m:=by
 refine Ctr.en Tryz.func272 [.cell 2 54,.cell 3 54] 62 fun hwf Q hQ=>?_
 obtain ⟨k0,ez,hb⟩:=hb
 have lb:=Jb2 hb
 have U2:=ca3 hb (Ja5 hb) @Ja4
 refine AW.c 1 U2 Tru ?_
 refine AW.d [.val,.val,.rd 0,.val,.val,.rw 0,.ext,.fl,.wr,.wr] fol U2 Tru ?_
 refine AW.q fun K J0=>?_
 refine AW.c 1 U2 Tru ?_
 apply AW.b
 refine AW.r 3 ?_
 refine ARounds.s fun K J1=>?_
 refine AW.q fun K J2=>?_
 refine AW.c 1 U2 Tru ?_
 apply AW.y rfl
 apply AW.z
 apply J2
 refine AW.q fun K J2=>?_
 apply AW.b
 refine AW.c 1 U2 Tru ?_
 apply AW.b
 refine AW.r 4 ?_
 refine ARounds.s fun K J3=>?_
 refine AW.q fun K J4=>?_
 refine AW.c 1 U2 Tru ?_
 apply AW.y rfl
 apply AW.z
 apply J4
 refine AW.q fun K J4=>?_
 apply AW.b
 refine AW.q fun K J5=>?_
 refine AW.d [.val,.val,.val,.val,.val,.rd 0,.val,.val,.rd 0,.val] fol U2 Tru ?_
 refine AW.condJ rfl [0,2,3,4,5,6,7] [] [(m.length+2,⟨.fix,54,0,0,[.int .i64 (minI (a 0) (b 0)),.int .i64 (a 1),.int .i64 (a 2)]⟩)] (fun h33=>?_) (fun h33=>?_) ?_
 ·have hmn:minI (a 0) (b 0)=(b 0):=if_pos (of_decide_eq_true h33)
  refine AW.g U2 Tru ?_
  apply Jc2
  try simp only [Jb1,Ja2,push_cast,simprocAttr,U2,hmn]
  exact Weak.same (by simp only [KS,simprocAttr,hmn]) (by first|rfl|simp only [KS,simprocAttr,hmn])
 ·have hmn:minI (a 0) (b 0)=(a 0):=if_neg (of_decide_eq_false h33)
  apply AW.z
  apply Jc2
  try simp only [Jb1,Ja2,push_cast,simprocAttr,U2,hmn]
  exact Weak.same (by simp only [KS,simprocAttr,hmn]) (by first|rfl|simp only [KS,simprocAttr,hmn])
 try simp only [Jb1,Ja2,push_cast,simprocAttr,U2]
 apply J5
 refine AW.d [.val,.val,.val,.val,.val,.rd 0,.val,.val,.rd 0,.val] fol U2 Tru ?_
 refine AW.condJ rfl [0,2,3,4,5,6,7] [] [(m.length+3,⟨.fix,54,0,0,[.int .i64 (maxI (a 0) (b 0)),.int .i64 (a 1),.int .i64 (a 2)]⟩)] (fun h51=>?_) (fun h51=>?_) ?_
 ·have hmn:maxI (a 0) (b 0)=(b 0):=if_pos (of_decide_eq_true h51)
  refine AW.g U2 Tru ?_
  apply Jc2
  try simp only [Jb1,Ja2,push_cast,simprocAttr,U2,hmn]
  exact Weak.same (by simp only [KS,simprocAttr,hmn]) (by first|rfl|simp only [KS,simprocAttr,hmn])
 ·have hmn:maxI (a 0) (b 0)=(a 0):=if_neg (of_decide_eq_false h51)
  apply AW.z
  apply Jc2
  try simp only [Jb1,Ja2,push_cast,simprocAttr,U2,hmn]
  exact Weak.same (by simp only [KS,simprocAttr,hmn]) (by first|rfl|simp only [KS,simprocAttr,hmn])
 try simp only [Jb1,Ja2,push_cast,simprocAttr,U2]
 apply Ja8
 apply J4
 refine AW.g U2 Tru ?_
 apply J3
 refine ARounds.s fun K J3=>?_
 refine AW.q fun K J4=>?_
 refine AW.c 1 U2 Tru ?_
 apply AW.y rfl
 apply AW.z
 apply J4
 refine AW.q fun K J4=>?_
 apply AW.b
 refine AW.q fun K J5=>?_
 refine AW.d [.val,.val,.val,.val,.val,.rd 0,.val,.val,.rd 0,.val] fol U2 Tru ?_
 refine AW.condJ rfl [0,2,3,4,5,6,7] [] [(m.length+2,⟨.fix,54,0,0,[.int .i64 (minI (a 0) (b 0)),.int .i64 (minI (a 1) (b 1)),.int .i64 (a 2)]⟩)] (fun h33=>?_) (fun h33=>?_) ?_
 ·have hmn:minI (a 1) (b 1)=(b 1):=if_pos (of_decide_eq_true h33)
  refine AW.g U2 Tru ?_
  apply Jc2
  try simp only [Jb1,Ja2,push_cast,simprocAttr,U2,hmn]
  exact Weak.same (by simp only [KS,simprocAttr,hmn]) (by first|rfl|simp only [KS,simprocAttr,hmn])
 ·have hmn:minI (a 1) (b 1)=(a 1):=if_neg (of_decide_eq_false h33)
  apply AW.z
  apply Jc2
  try simp only [Jb1,Ja2,push_cast,simprocAttr,U2,hmn]
  exact Weak.same (by simp only [KS,simprocAttr,hmn]) (by first|rfl|simp only [KS,simprocAttr,hmn])
 try simp only [Jb1,Ja2,push_cast,simprocAttr,U2]
 apply J5
 refine AW.d [.val,.val,.val,.val,.val,.rd 0,.val,.val,.rd 0,.val] fol U2 Tru ?_
 refine AW.condJ rfl [0,2,3,4,5,6,7] [] [(m.length+3,⟨.fix,54,0,0,[.int .i64 (maxI (a 0) (b 0)),.int .i64 (maxI (a 1) (b 1)),.int .i64 (a 2)]⟩)] (fun h51=>?_) (fun h51=>?_) ?_
 ·have hmn:maxI (a 1) (b 1)=(b 1):=if_pos (of_decide_eq_true h51)
  refine AW.g U2 Tru ?_
  apply Jc2
  try simp only [Jb1,Ja2,push_cast,simprocAttr,U2,hmn]
  exact Weak.same (by simp only [KS,simprocAttr,hmn]) (by first|rfl|simp only [KS,simprocAttr,hmn])
 ·have hmn:maxI (a 1) (b 1)=(a 1):=if_neg (of_decide_eq_false h51)
  apply AW.z
  apply Jc2
  try simp only [Jb1,Ja2,push_cast,simprocAttr,U2,hmn]
  exact Weak.same (by simp only [KS,simprocAttr,hmn]) (by first|rfl|simp only [KS,simprocAttr,hmn])
 try simp only [Jb1,Ja2,push_cast,simprocAttr,U2]
 apply Ja8
 apply J4
 refine AW.g U2 Tru ?_
 apply J3
 refine ARounds.s fun K J3=>?_
 refine AW.q fun K J4=>?_
 refine AW.c 1 U2 Tru ?_
 apply AW.y rfl
 apply AW.z
 apply J4
 refine AW.q fun K J4=>?_
 apply AW.b
 refine AW.q fun K J5=>?_
 refine AW.d [.val,.val,.val,.val,.val,.rd 0,.val,.val,.rd 0,.val] fol U2 Tru ?_
 refine AW.condJ rfl [0,2,3,4,5,6,7] [] [(m.length+2,⟨.fix,54,0,0,[.int .i64 (minI (a 0) (b 0)),.int .i64 (minI (a 1) (b 1)),.int .i64 (minI (a 2) (b 2))]⟩)] (fun h33=>?_) (fun h33=>?_) ?_
 ·have hmn:minI (a 2) (b 2)=(b 2):=if_pos (of_decide_eq_true h33)
  refine AW.g U2 Tru ?_
  apply Jc2
  try simp only [Jb1,Ja2,push_cast,simprocAttr,U2,hmn]
  exact Weak.same (by simp only [KS,simprocAttr,hmn]) (by first|rfl|simp only [KS,simprocAttr,hmn])
 ·have hmn:minI (a 2) (b 2)=(a 2):=if_neg (of_decide_eq_false h33)
  apply AW.z
  apply Jc2
  try simp only [Jb1,Ja2,push_cast,simprocAttr,U2,hmn]
  exact Weak.same (by simp only [KS,simprocAttr,hmn]) (by first|rfl|simp only [KS,simprocAttr,hmn])
 try simp only [Jb1,Ja2,push_cast,simprocAttr,U2]
 apply J5
 refine AW.d [.val,.val,.val,.val,.val,.rd 0,.val,.val,.rd 0,.val] fol U2 Tru ?_
 refine AW.condJ rfl [0,2,3,4,5,6,7] [] [(m.length+3,⟨.fix,54,0,0,[.int .i64 (maxI (a 0) (b 0)),.int .i64 (maxI (a 1) (b 1)),.int .i64 (maxI (a 2) (b 2))]⟩)] (fun h51=>?_) (fun h51=>?_) ?_
 ·have hmn:maxI (a 2) (b 2)=(b 2):=if_pos (of_decide_eq_true h51)
  refine AW.g U2 Tru ?_
  apply Jc2
  try simp only [Jb1,Ja2,push_cast,simprocAttr,U2,hmn]
  exact Weak.same (by simp only [KS,simprocAttr,hmn]) (by first|rfl|simp only [KS,simprocAttr,hmn])
 ·have hmn:maxI (a 2) (b 2)=(a 2):=if_neg (of_decide_eq_false h51)
  apply AW.z
  apply Jc2
  try simp only [Jb1,Ja2,push_cast,simprocAttr,U2,hmn]
  exact Weak.same (by simp only [KS,simprocAttr,hmn]) (by first|rfl|simp only [KS,simprocAttr,hmn])
 try simp only [Jb1,Ja2,push_cast,simprocAttr,U2]
 apply Ja8
 apply J4
 refine AW.g U2 Tru ?_
 apply J3
 refine ARounds.s fun K J3=>?_
 refine AW.q fun K J4=>?_
 refine AW.c 1 U2 Tru ?_
 apply AW.x rfl
 apply AW.v
 apply Jb0
 apply Jb0
 apply Ja6
 apply Ja8
 apply J2
 refine AW.g U2 Tru ?_
 apply J1
 refine ARounds.s fun K J1=>?_
 refine AW.q fun K J2=>?_
 refine AW.c 1 U2 Tru ?_
 apply AW.y rfl
 apply AW.z
 apply J2
 refine AW.q fun K J2=>?_
 apply AW.b
 refine AW.c 1 U2 Tru ?_
 apply AW.b
 refine AW.r 4 ?_
 refine ARounds.s fun K J3=>?_
 refine AW.q fun K J4=>?_
 refine AW.c 1 U2 Tru ?_
 apply AW.y rfl
 apply AW.z
 apply J4
 refine AW.q fun K J4=>?_
 apply AW.b
 refine AW.q fun K J5=>?_
 refine AW.d [.val,.val,.val,.val,.val,.rd 0,.val,.val,.rd 0,.val] fol U2 Tru ?_
 refine AW.condJ rfl [0,2,3,4,5,6,7] [] [(m.length+2,⟨.fix,54,0,0,[.int .i64 (minI (minI (a 0) (b 0)) (c 0)),.int .i64 (minI (a 1) (b 1)),.int .i64 (minI (a 2) (b 2))]⟩)] (fun h33=>?_) (fun h33=>?_) ?_
 ·have hmn:minI (minI (a 0) (b 0)) (c 0)=(c 0):=if_pos (of_decide_eq_true h33)
  refine AW.g U2 Tru ?_
  apply Jc2
  try simp only [Jb1,Ja2,push_cast,simprocAttr,U2,hmn]
  exact Weak.same (by simp only [KS,simprocAttr,hmn]) (by first|rfl|simp only [KS,simprocAttr,hmn])
 ·have hmn:minI (minI (a 0) (b 0)) (c 0)=(minI (a 0) (b 0)):=if_neg (of_decide_eq_false h33)
  apply AW.z
  apply Jc2
  try simp only [Jb1,Ja2,push_cast,simprocAttr,U2,hmn]
  exact Weak.same (by simp only [KS,simprocAttr,hmn]) (by first|rfl|simp only [KS,simprocAttr,hmn])
 try simp only [Jb1,Ja2,push_cast,simprocAttr,U2]
 apply J5
 refine AW.d [.val,.val,.val,.val,.val,.rd 0,.val,.val,.rd 0,.val] fol U2 Tru ?_
 refine AW.condJ rfl [0,2,3,4,5,6,7] [] [(m.length+3,⟨.fix,54,0,0,[.int .i64 (maxI (maxI (a 0) (b 0)) (c 0)),.int .i64 (maxI (a 1) (b 1)),.int .i64 (maxI (a 2) (b 2))]⟩)] (fun h51=>?_) (fun h51=>?_) ?_
 ·have hmn:maxI (maxI (a 0) (b 0)) (c 0)=(c 0):=if_pos (of_decide_eq_true h51)
  refine AW.g U2 Tru ?_
  apply Jc2
  try simp only [Jb1,Ja2,push_cast,simprocAttr,U2,hmn]
  exact Weak.same (by simp only [KS,simprocAttr,hmn]) (by first|rfl|simp only [KS,simprocAttr,hmn])
 ·have hmn:maxI (maxI (a 0) (b 0)) (c 0)=(maxI (a 0) (b 0)):=if_neg (of_decide_eq_false h51)
  apply AW.z
  apply Jc2
  try simp only [Jb1,Ja2,push_cast,simprocAttr,U2,hmn]
  exact Weak.same (by simp only [KS,simprocAttr,hmn]) (by first|rfl|simp only [KS,simprocAttr,hmn])
 try simp only [Jb1,Ja2,push_cast,simprocAttr,U2]
 apply Ja8
 apply J4
 refine AW.g U2 Tru ?_
 apply J3
 refine ARounds.s fun K J3=>?_
 refine AW.q fun K J4=>?_
 refine AW.c 1 U2 Tru ?_
 apply AW.y rfl
 apply AW.z
 apply J4
 refine AW.q fun K J4=>?_
 apply AW.b
 refine AW.q fun K J5=>?_
 refine AW.d [.val,.val,.val,.val,.val,.rd 0,.val,.val,.rd 0,.val] fol U2 Tru ?_
 refine AW.condJ rfl [0,2,3,4,5,6,7] [] [(m.length+2,⟨.fix,54,0,0,[.int .i64 (minI (minI (a 0) (b 0)) (c 0)),.int .i64 (minI (minI (a 1) (b 1)) (c 1)),.int .i64 (minI (a 2) (b 2))]⟩)] (fun h33=>?_) (fun h33=>?_) ?_
 ·have hmn:minI (minI (a 1) (b 1)) (c 1)=(c 1):=if_pos (of_decide_eq_true h33)
  refine AW.g U2 Tru ?_
  apply Jc2
  try simp only [Jb1,Ja2,push_cast,simprocAttr,U2,hmn]
  exact Weak.same (by simp only [KS,simprocAttr,hmn]) (by first|rfl|simp only [KS,simprocAttr,hmn])
 ·have hmn:minI (minI (a 1) (b 1)) (c 1)=(minI (a 1) (b 1)):=if_neg (of_decide_eq_false h33)
  apply AW.z
  apply Jc2
  try simp only [Jb1,Ja2,push_cast,simprocAttr,U2,hmn]
  exact Weak.same (by simp only [KS,simprocAttr,hmn]) (by first|rfl|simp only [KS,simprocAttr,hmn])
 try simp only [Jb1,Ja2,push_cast,simprocAttr,U2]
 apply J5
 refine AW.d [.val,.val,.val,.val,.val,.rd 0,.val,.val,.rd 0,.val] fol U2 Tru ?_
 refine AW.condJ rfl [0,2,3,4,5,6,7] [] [(m.length+3,⟨.fix,54,0,0,[.int .i64 (maxI (maxI (a 0) (b 0)) (c 0)),.int .i64 (maxI (maxI (a 1) (b 1)) (c 1)),.int .i64 (maxI (a 2) (b 2))]⟩)] (fun h51=>?_) (fun h51=>?_) ?_
 ·have hmn:maxI (maxI (a 1) (b 1)) (c 1)=(c 1):=if_pos (of_decide_eq_true h51)
  refine AW.g U2 Tru ?_
  apply Jc2
  try simp only [Jb1,Ja2,push_cast,simprocAttr,U2,hmn]
  exact Weak.same (by simp only [KS,simprocAttr,hmn]) (by first|rfl|simp only [KS,simprocAttr,hmn])
 ·have hmn:maxI (maxI (a 1) (b 1)) (c 1)=(maxI (a 1) (b 1)):=if_neg (of_decide_eq_false h51)
  apply AW.z
  apply Jc2
  try simp only [Jb1,Ja2,push_cast,simprocAttr,U2,hmn]
  exact Weak.same (by simp only [KS,simprocAttr,hmn]) (by first|rfl|simp only [KS,simprocAttr,hmn])
 try simp only [Jb1,Ja2,push_cast,simprocAttr,U2]
 apply Ja8
 apply J4
 refine AW.g U2 Tru ?_
 apply J3
 refine ARounds.s fun K J3=>?_
 refine AW.q fun K J4=>?_
 refine AW.c 1 U2 Tru ?_
 apply AW.y rfl
 apply AW.z
 apply J4
 refine AW.q fun K J4=>?_
 apply AW.b
 refine AW.q fun K J5=>?_
 refine AW.d [.val,.val,.val,.val,.val,.rd 0,.val,.val,.rd 0,.val] fol U2 Tru ?_
 refine AW.condJ rfl [0,2,3,4,5,6,7] [] [(m.length+2,⟨.fix,54,0,0,[.int .i64 (minI (minI (a 0) (b 0)) (c 0)),.int .i64 (minI (minI (a 1) (b 1)) (c 1)),.int .i64 (minI (minI (a 2) (b 2)) (c 2))]⟩)] (fun h33=>?_) (fun h33=>?_) ?_
 ·have hmn:minI (minI (a 2) (b 2)) (c 2)=(c 2):=if_pos (of_decide_eq_true h33)
  refine AW.g U2 Tru ?_
  apply Jc2
  try simp only [Jb1,Ja2,push_cast,simprocAttr,U2,hmn]
  exact Weak.same (by simp only [KS,simprocAttr,hmn]) (by first|rfl|simp only [KS,simprocAttr,hmn])
 ·have hmn:minI (minI (a 2) (b 2)) (c 2)=(minI (a 2) (b 2)):=if_neg (of_decide_eq_false h33)
  apply AW.z
  apply Jc2
  try simp only [Jb1,Ja2,push_cast,simprocAttr,U2,hmn]
  exact Weak.same (by simp only [KS,simprocAttr,hmn]) (by first|rfl|simp only [KS,simprocAttr,hmn])
 try simp only [Jb1,Ja2,push_cast,simprocAttr,U2]
 apply J5
 refine AW.d [.val,.val,.val,.val,.val,.rd 0,.val,.val,.rd 0,.val] fol U2 Tru ?_
 refine AW.condJ rfl [0,2,3,4,5,6,7] [] [(m.length+3,⟨.fix,54,0,0,[.int .i64 (maxI (maxI (a 0) (b 0)) (c 0)),.int .i64 (maxI (maxI (a 1) (b 1)) (c 1)),.int .i64 (maxI (maxI (a 2) (b 2)) (c 2))]⟩)] (fun h51=>?_) (fun h51=>?_) ?_
 ·have hmn:maxI (maxI (a 2) (b 2)) (c 2)=(c 2):=if_pos (of_decide_eq_true h51)
  refine AW.g U2 Tru ?_
  apply Jc2
  try simp only [Jb1,Ja2,push_cast,simprocAttr,U2,hmn]
  exact Weak.same (by simp only [KS,simprocAttr,hmn]) (by first|rfl|simp only [KS,simprocAttr,hmn])
 ·have hmn:maxI (maxI (a 2) (b 2)) (c 2)=(maxI (a 2) (b 2)):=if_neg (of_decide_eq_false h51)
  apply AW.z
  apply Jc2
  try simp only [Jb1,Ja2,push_cast,simprocAttr,U2,hmn]
  exact Weak.same (by simp only [KS,simprocAttr,hmn]) (by first|rfl|simp only [KS,simprocAttr,hmn])
 try simp only [Jb1,Ja2,push_cast,simprocAttr,U2]
 apply Ja8
 apply J4
 refine AW.g U2 Tru ?_
 apply J3
 refine ARounds.s fun K J3=>?_
 refine AW.q fun K J4=>?_
 refine AW.c 1 U2 Tru ?_
 apply AW.x rfl
 apply AW.v
 apply Jb0
 apply Jb0
 apply Ja6
 apply Ja8
 apply J2
 refine AW.g U2 Tru ?_
 apply J1
 refine ARounds.s fun K J1=>?_
 refine AW.q fun K J2=>?_
 refine AW.c 1 U2 Tru ?_
 apply AW.x rfl
 apply AW.v
 apply Jb0
 apply Jb0
 apply Ja6
 apply J0
 refine AW.d [.rd 0,.rw 0,.wr,.wr] fol U2 Tru ?_
 exact AW.ret (hQ _ _ _ (RetP.z hwf Tru))
theorem Xq1 (a:V)(r v:Nat)(m:Ja1)(hb:∃ k ez,m[r]?=some ⟨k,54,v,ez,c3C a⟩):Ctr Tryz.prog 271 [.one (.sl r v 0 1)] m (.agg (bxC (⟨a,a⟩))) m:=by
 refine Ctr.en Tryz.func271 [.cell 2 376] 13 fun hwf Q hQ=>?_
 obtain ⟨k0,ez,hb⟩:=hb
 have lb:=Jb2 hb
 have U3:=ca2 @Je8 @Ja4
 refine AW.c 3 U3 (Vs7 a r v _ ⟨k0,ez,Ja5 hb _⟩) ?_
 exact AW.ret (hQ _ _ _ (RetP.z hwf Tru))
theorem Xq0 (a b c:V)(r v:Nat)(m:Ja1)(hb:∃ k ez,m[r]?=some ⟨k,54,v,ez,c3C a++(c3C b++c3C c)⟩):Ctr Tryz.prog 271 [.one (.sl r v 0 3)] m (.agg (bxC (⟨fun k=>minI (minI (a k) (b k)) (c k),fun k=>maxI (maxI (a k) (b k)) (c k)⟩))) m:=by
 refine Ctr.en Tryz.func271 [.cell 2 376] 13 fun hwf Q hQ=>?_
 obtain ⟨k0,ez,hb⟩:=hb
 have lb:=Jb2 hb
 have U4:=ca2 @Je8 @Ja4
 refine AW.c 3 U4 (Vs6 a b c r v _ ⟨k0,ez,Ja5 hb _⟩) ?_
 exact AW.ret (hQ _ _ _ (RetP.z hwf Tru))
theorem Qi5 (b:BX)(w:Int)(m:Ja1):Ctr Tryz.prog 270 [.agg (bxC b),.one (.int .i64 w)] m (.agg (bxC (⟨fun k=>Jf8 (b.lo k) w,fun k=>Jd6 (b.hi k) w⟩))) m:=by
 refine Ctr.en Tryz.func270 [.cell 4 376] 19 fun hwf Q hQ=>?_
 have U5:=ca4 @Je8 @Ja4 @Qv4 @Qv7
 refine AW.c 2 U5 Tru ?_
 refine AW.d [.val,.rd 0,.rd 0,.ext,.val,.rd 0,.rd 0,.ext,.val,.wr] fol U5 (ca2 (Jg3 b.lo (fun _=>w)) (Ju1 b.hi (fun _=>w))) ?_
 exact AW.ret (hQ _ _ _ (RetP.z hwf Tru))
theorem Qq7 (p:PL)(m:Ja1)(hk:(p.kind ==0)=true):Ctr Tryz.prog 265 [.agg (plC p)] m (.agg (bxC (Jc7 p))) m:=by
 refine Ctr.en Tryz.func265 [.cell 2 376] 27 fun hwf Q hQ=>?_
 have hv:Jc7 p=⟨fun k=>Jf8 (p.P 0 k) (Jd6 p.r 8192),fun k=>Jd6 (p.P 0 k) (Jd6 p.r 8192)⟩:=by unfold Jc7;rw [if_pos (eq_of_beq hk)]
 rw [hv] at hQ
 have gx:=Jg4 p
 have U6:=ca4 gx hk @Je8 @Ja4
 refine AW.c 1 U6 Tru ?_
 refine AW.q fun K J0=>?_
 refine AW.c 1 U6 Tru ?_
 apply AW.y rfl
 refine AW.q fun K J1=>?_
 refine AW.draw [.val,.val,.rd 0,.ext,.ext,.val,.rd 0,.ext,.ext,.wr] fol (by decide) (by kernel_rfl) ?_
 simp only [push_cast,simprocAttr,U6]
 refine DExt.by (by first|rfl|exact (List.append_nil _).symm|(simp only [List.append_assoc,List.cons_append,List.nil_append];rfl)) ?_
 simp only [push_cast,simprocAttr,U6]
 refine DCall.z (Xq1 (p.P 0) _ 0 _ ⟨.grow,3,by simp only [push_cast,simprocAttr];rfl⟩) ?_
 simp only [push_cast,simprocAttr,U6]
 refine DCall.z (Jp6 _ _ _) ?_
 simp only [push_cast,simprocAttr,U6]
 refine DCall.z (Qi5 ⟨p.P 0,p.P 0⟩ (Jd6 p.r 8192) _) ?_
 simp only [push_cast,simprocAttr,U6]
 apply J1
 exact AW.ret (hQ _ _ _ (RetP.z hwf Tru))
theorem Qq6 (p:PL)(m:Ja1)(hk:(p.kind ==0)=false):Ctr Tryz.prog 265 [.agg (plC p)] m (.agg (bxC (Jc7 p))) m:=by
 refine Ctr.en Tryz.func265 [.cell 2 376] 27 fun hwf Q hQ=>?_
 have hv:Jc7 p=⟨fun k=>Jf8 (lo3 p k) 8192,fun k=>Jd6 (hi3 p k) 8192⟩:=by unfold Jc7;rw [if_neg (by simpa using hk)]
 rw [hv] at hQ
 have gx:=Jg4 p
 have U7:=ca4 gx hk @Je8 @Ja4
 refine AW.c 1 U7 Tru ?_
 refine AW.q fun K J0=>?_
 refine AW.c 1 U7 Tru ?_
 apply AW.x rfl
 apply AW.z
 apply J0
 refine AW.sr 1 fun K J0=>?_
 simp only [push_cast,simprocAttr,U7]
 refine CThen.by (Xq0 (p.P 0) (p.P 1) (p.P 2) _ 0 _ ⟨.grow,3,by rw [Jg1];rfl⟩) ?_
 simp only [push_cast,simprocAttr,U7]
 refine CThen.by (Qi5 ⟨lo3 p,hi3 p⟩ 8192 _) ?_
 simp only [push_cast,simprocAttr,U7]
 apply J0
 exact AW.ret (hQ _ _ _ (RetP.z hwf Tru))
theorem Va5 (p:PL)(m:Ja1):Ctr Tryz.prog 265 [.agg (plC p)] m (.agg (bxC (Jc7 p))) m:=by
 cases hk:(p.kind ==0)
 ·exact Qq6 p m hk
 exact Qq7 p m hk
theorem Jj3 (h:HT):htC h=(.int .i64 h.t::.int .i64 h.i::(c3C h.p++c3C h.n)):=rfl
theorem Jm9:z0V=(fun _=>0):=rfl
theorem Xg4 (P:PL)(r:RY)(t near far:Int)(m:Ja1)(g1:¬near<t):Ctr Tryz.prog 235 [.agg (ryC r),.agg (plC P),.one (.int .i64 t),.one (.int .i64 near),.one (.int .i64 far)] m (.tup [(true,htC (⟨t,0,Je4 r t,z0V⟩)),(false,[.bool false])]) m:=by
 refine Ctr.en Tryz.func235 [.cell 10 165,.tmp 11] 34 fun hwf Q hQ=>?_
 have U8:=ca4 @Jh4 @Jq4 @Je8 (ca4 @Jj3 @Ja4 @Jm9 (ca3 @decide_true @decide_false g1))
 refine AW.c 2 U8 (Ky8 r t) ?_
 refine AW.q fun K J0=>?_
 refine AW.draw [.rd 0,.val,.val,.val,.val,.val,.val,.val,.val,.val,.rd 0,.ext,.val,.rd 0,.ext,.val,.wr,.val] fol (by decide) (by kernel_rfl) ?_
 simp only [push_cast,simprocAttr,U8]
 apply J0
 exact AW.ret (hQ _ _ _ (RetP.z hwf Tru))
theorem Xc0 (P:PL)(r:RY)(t near far:Int)(m:Ja1)(g1:¬near<t):Ctr Tryz.prog 240 [.agg (ryC r),.agg (plC P),.one (.int .i64 t),.one (.int .i64 near),.one (.int .i64 far)] m (.one (.bool false)) m:=by
 refine Ctr.en Tryz.func240 [.tmp 10] 27 fun hwf Q hQ=>?_
 have U9:=ca4 @Jh4 @Jq4 @Je8 (ca4 @Ja4 @decide_true @decide_false g1)
 refine AW.c 1 U9 Tru ?_
 refine AW.q fun K J0=>?_
 refine AW.draw [.val,.val,.val,.val,.val,.val,.val,.val,.val,.rd 0,.ext,.rd 0,.val,.ext,.ext,.val,.val] fol (by decide) (by kernel_rfl) ?_
 simp only [push_cast,simprocAttr,U9]
 apply J0
 exact AW.ret (hQ _ _ _ (RetP.z hwf U9))
theorem Xg3 (P:PL)(r:RY)(t near far:Int)(m:Ja1)(g1:near<t)(g2:¬t<=far):Ctr Tryz.prog 235 [.agg (ryC r),.agg (plC P),.one (.int .i64 t),.one (.int .i64 near),.one (.int .i64 far)] m (.tup [(true,htC (⟨t,0,Je4 r t,z0V⟩)),(false,[.bool false])]) m:=by
 refine Ctr.en Tryz.func235 [.cell 10 165,.tmp 11] 34 fun hwf Q hQ=>?_
 have U10:=ca4 @Jh4 @Jq4 @Je8 (ca4 @Jj3 @Ja4 @Jm9 (ca4 @decide_true @decide_false g1 g2))
 refine AW.c 2 U10 (Ky8 r t) ?_
 refine AW.q fun K J0=>?_
 refine AW.draw [.rd 0,.val,.val,.val,.val,.val,.val,.val,.val,.val,.rd 0,.ext,.val,.rd 0,.ext,.val,.wr,.val] fol (by decide) (by kernel_rfl) ?_
 simp only [push_cast,simprocAttr,U10]
 apply J0
 exact AW.ret (hQ _ _ _ (RetP.z hwf Tru))
theorem Xb9 (P:PL)(r:RY)(t near far:Int)(m:Ja1)(g1:near<t)(g2:¬t<=far):Ctr Tryz.prog 240 [.agg (ryC r),.agg (plC P),.one (.int .i64 t),.one (.int .i64 near),.one (.int .i64 far)] m (.one (.bool false)) m:=by
 refine Ctr.en Tryz.func240 [.tmp 10] 27 fun hwf Q hQ=>?_
 have U11:=ca4 @Jh4 @Jq4 @Je8 (ca4 @Ja4 @decide_true @decide_false (ca2 g1 g2))
 refine AW.c 1 U11 Tru ?_
 refine AW.q fun K J0=>?_
 refine AW.draw [.val,.val,.val,.val,.val,.val,.val,.val,.val,.rd 0,.ext,.rd 0,.val,.ext,.ext,.val,.val] fol (by decide) (by kernel_rfl) ?_
 simp only [push_cast,simprocAttr,U11]
 apply J0
 exact AW.ret (hQ _ _ _ (RetP.z hwf U11))
theorem Xg2 (P:PL)(r:RY)(t near far:Int)(m:Ja1)(g1:near<t)(g2:t<=far)(z:Bool)(hz:z=true↔Ka5 (Jc7 P) (Je4 r t)):Ctr Tryz.prog 235 [.agg (ryC r),.agg (plC P),.one (.int .i64 t),.one (.int .i64 near),.one (.int .i64 far)] m (.tup [(true,htC (⟨t,0,Je4 r t,z0V⟩)),(false,[.bool z])]) m:=by
 refine Ctr.en Tryz.func235 [.cell 10 165,.tmp 11] 34 fun hwf Q hQ=>?_
 have U12:=ca4 @Jh4 @Jq4 @Je8 (ca4 @Jj3 @Ja4 @Jm9 (ca4 @decide_true @decide_false g1 g2))
 refine AW.c 2 U12 (Ky8 r t) ?_
 refine AW.d [.rd 0,.val,.val,.val,.val,.val,.val,.val,.val,.val,.rd 0,.ext,.val,.rd 0,.ext,.val,.wr,.val] fol U12 (ca2 (Jq1 P) (has_c (Jc7 P) (Je4 r t) _ z hz)) ?_
 exact AW.ret (hQ _ _ _ (RetP.z hwf Tru))
theorem Xb8 (P:PL)(r:RY)(t near far:Int)(m:Ja1)(g1:near<t)(g2:t<=far)(z:Bool)(hz:z=true↔Ka5 (Jc7 P) (Je4 r t)):Ctr Tryz.prog 240 [.agg (ryC r),.agg (plC P),.one (.int .i64 t),.one (.int .i64 near),.one (.int .i64 far)] m (.one (.bool z)) m:=by
 refine Ctr.en Tryz.func240 [.tmp 10] 27 fun hwf Q hQ=>?_
 have U13:=ca4 @Jh4 @Jq4 @Je8 (ca4 @Ja4 @decide_true @decide_false (ca2 g1 g2))
 refine AW.c 1 U13 Tru ?_
 refine AW.d [.val,.val,.val,.val,.val,.val,.val,.val,.val,.rd 0,.ext,.rd 0,.val,.ext,.ext,.val,.val] fol U13 (ca3 (Va5 P) (Ku2 r t) (Xq3 (Jc7 P) (Je4 r t) _ z hz)) ?_
 exact AW.ret (hQ _ _ _ (RetP.z hwf U13))
theorem Km7 (P:PL)(r:RY)(t near far:Int)(m:Ja1)(z:Bool)(hz:z=true↔(near<t/\t<=far/\Ka5 (Jc7 P) (Je4 r t))):Ctr Tryz.prog 235 [.agg (ryC r),.agg (plC P),.one (.int .i64 t),.one (.int .i64 near),.one (.int .i64 far)] m (.tup [(true,htC (⟨t,0,Je4 r t,z0V⟩)),(false,[.bool z])]) m:=by
 by_cases g1:near<t
 ·by_cases g2:t<=far
  ·exact Xg2 P r t near far m g1 g2 z ⟨fun h=>(hz.1 h).2.2,fun h=>hz.2 ⟨g1,g2,h⟩⟩
  obtain rfl:z=false:=by
   cases z with
   | false=>rfl
   | true=>exact absurd (hz.1 rfl).2.1 g2
  exact Xg3 P r t near far m g1 g2
 obtain rfl:z=false:=by
  cases z with
  | false=>rfl
  | true=>exact absurd (hz.1 rfl).1 g1
 exact Xg4 P r t near far m g1
theorem Kk6 (P:PL)(r:RY)(t near far:Int)(m:Ja1)(z:Bool)(hz:z=true↔(near<t/\t<=far/\Ka5 (Jc7 P) (Je4 r t))):Ctr Tryz.prog 240 [.agg (ryC r),.agg (plC P),.one (.int .i64 t),.one (.int .i64 near),.one (.int .i64 far)] m (.one (.bool z)) m:=by
 by_cases g1:near<t
 ·by_cases g2:t<=far
  ·exact Xb8 P r t near far m g1 g2 z ⟨fun h=>(hz.1 h).2.2,fun h=>hz.2 ⟨g1,g2,h⟩⟩
  obtain rfl:z=false:=by
   cases z with
   | false=>rfl
   | true=>exact absurd (hz.1 rfl).2.1 g2
  exact Xb9 P r t near far m g1 g2
 obtain rfl:z=false:=by
  cases z with
  | false=>rfl
  | true=>exact absurd (hz.1 rfl).1 g1
 exact Xc0 P r t near far m g1
def Kb1 (P:PL)(r:RY)(near far t:Int):Prop:=near<t/\t<=far/\Ka5 (Jc7 P) (Je4 r t)
noncomputable def Jj8 (r:RY)(P:PL)(t:Int):V:=Kn9 r.d (if P.kind=0 then Jb8 (Jb4 (Je4 r t) (P.P 0)) else Jb8 (Jd4 (Jb4 (P.P 1) (P.P 0)) (Jb4 (P.P 2) (P.P 0))))
noncomputable def htV (r:RY)(P:PL)(t:Int):HT:=⟨t,0,Je4 r t,Jj8 r P t⟩
theorem Jt1 (b:Int):-Ja3 b=Jf8 0 b:=by
 unfold Jf8
 have h0:Ja3 0=0:=by decide
 have hb:=Jc9 b
 rw [h0,Int.zero_sub]
 exact (Jc5 (by omega)).symm
structure BalE (r:RY)(P:PL)(A B C D R t1 t2:Int):Prop where
 hA:Je9 r.d r.d=A
 hB:Je9 (Jb4 r.o (P.P 0)) r.d=B
 hC:Jf8 (Je9 (Jb4 r.o (P.P 0)) (Jb4 r.o (P.P 0))) (Je0 P.r P.r)=C
 hD:Jf8 (Je0 B B) (Je0 A C)=D
 hR:Jo0 D=R
 h1:Jh2 (Jf8 (-Ja3 B) R) A=t1
 h2:Jh2 (Jf8 R B) A=t2
theorem Vt8 (r:RY)(P:PL)(near far A B C D R t1 t2:Int)(m:Ja1)(hE:BalE r P A B C D R t1 t2)(hk:P.kind=0)(g:D<0):Ctr Tryz.prog 195 [.agg (ryC r),.agg (plC P),.one (.int .i64 near),.one (.int .i64 far)] m (.tup [(true,htC ht0),(false,[.bool false])]) m:=by
 refine Ctr.en Tryz.func195 [.cell 8 165,.tmp 9] 96 fun hwf Q hQ=>?_
 obtain ⟨hA,hB,hC,hD,hR,h1,h2⟩:=hE
 have gx:=Jg4 P
 have ng:=Jt1 B
 have hv:htC ht0=[.int .i64 0,.int .i64 0,.int .i64 0,.int .i64 0,.int .i64 0,.int .i64 0,.int .i64 0,.int .i64 0]:=rfl
 rw [hv] at hQ
 have U1:=ca4 gx @Jh4 @Jj3 (ca4 @Ja4 @Jm9 hA (ca4 hB hC hD (ca4 hR h1 h2 (ca3 g @decide_true @decide_false))))
 refine AW.c 2 U1 (Jk4 r.o (P.P 0)) ?_
 refine AW.d [.val,.rd 0,.val,.rd 0,.ext,.rd 0,.val,.rd 0,.ext,.val,.val] fol U1 (ca2 (Jg7 r.d r.d) (Jg7 (Jb4 r.o (P.P 0)) r.d)) ?_
 refine AW.d [.rd 0,.rd 0,.ext,.val,.rd 0,.val,.rd 0,.ext,.ext,.val] fol U1 (ca3 (Jg7 (Jb4 r.o (P.P 0)) (Jb4 r.o (P.P 0))) Jm7 Js6) ?_
 refine AW.c 1 U1 (ca2 Jm7 Js6) ?_
 refine AW.q fun K J0=>?_
 refine AW.c 1 U1 Tru ?_
 apply AW.y rfl
 refine AW.c 1 U1 Tru ?_
 exact AW.ret (hQ _ _ _ (RetP.z hwf Tru))
theorem Va4 (r:RY)(P:PL)(near far A B C D R t1 t2:Int)(m:Ja1)(hE:BalE r P A B C D R t1 t2)(hk:P.kind=0)(g:D<0):Ctr Tryz.prog 200 [.agg (ryC r),.agg (plC P),.one (.int .i64 near),.one (.int .i64 far)] m (.tup [(true,htC ht0),(false,[.bool false])]) m:=by
 refine Ctr.en Tryz.func200 [.cell 8 183,.tmp 9] 98 fun hwf Q hQ=>?_
 obtain ⟨hA,hB,hC,hD,hR,h1,h2⟩:=hE
 have gx:=Jg4 P
 have ng:=Jt1 B
 have hv:htC ht0=[.int .i64 0,.int .i64 0,.int .i64 0,.int .i64 0,.int .i64 0,.int .i64 0,.int .i64 0,.int .i64 0]:=rfl
 rw [hv] at hQ
 have U2:=ca4 gx @Jh4 @Jj3 (ca4 @Ja4 @Jm9 hA (ca4 hB hC hD (ca4 hR h1 h2 (ca4 g @decide_true @decide_false ng.symm))))
 refine AW.c 5 U2 (ca3 (Jg3 r.o (P.P 0)) (Je3 r.d r.d) (Je3 (Jb4 r.o (P.P 0)) r.d)) ?_
 refine AW.d [.rd 0,.rd 0,.ext,.val,.rd 0,.val,.rd 0,.ext,.ext,.val] fol U2 (ca3 (Je3 (Jb4 r.o (P.P 0)) (Jb4 r.o (P.P 0))) Jg6 Ji7) ?_
 refine AW.c 1 U2 (ca2 Jg6 Ji7) ?_
 refine AW.q fun K J0=>?_
 refine AW.c 1 U2 Tru ?_
 apply AW.y rfl
 refine AW.c 1 U2 Tru ?_
 exact AW.ret (hQ _ _ _ (RetP.z hwf Tru))
theorem Vt7 (r:RY)(P:PL)(near far A B C D R t1 t2:Int)(m:Ja1)(hE:BalE r P A B C D R t1 t2)(hk:P.kind=0)(g:¬D<0)(ga:(A ==0)=true):Ctr Tryz.prog 195 [.agg (ryC r),.agg (plC P),.one (.int .i64 near),.one (.int .i64 far)] m (.tup [(true,htC ht0),(false,[.bool false])]) m:=by
 refine Ctr.en Tryz.func195 [.cell 8 165,.tmp 9] 96 fun hwf Q hQ=>?_
 obtain ⟨hA,hB,hC,hD,hR,h1,h2⟩:=hE
 have gx:=Jg4 P
 have ng:=Jt1 B
 have hv:htC ht0=[.int .i64 0,.int .i64 0,.int .i64 0,.int .i64 0,.int .i64 0,.int .i64 0,.int .i64 0,.int .i64 0]:=rfl
 rw [hv] at hQ
 have U3:=ca4 gx @Jh4 @Jj3 (ca4 @Ja4 @Jm9 hA (ca4 hB hC hD (ca4 hR h1 h2 (ca4 g @decide_true @decide_false ga))))
 refine AW.c 2 U3 (Jk4 r.o (P.P 0)) ?_
 refine AW.d [.val,.rd 0,.val,.rd 0,.ext,.rd 0,.val,.rd 0,.ext,.val,.val] fol U3 (ca2 (Jg7 r.d r.d) (Jg7 (Jb4 r.o (P.P 0)) r.d)) ?_
 refine AW.d [.rd 0,.rd 0,.ext,.val,.rd 0,.val,.rd 0,.ext,.ext,.val] fol U3 (ca3 (Jg7 (Jb4 r.o (P.P 0)) (Jb4 r.o (P.P 0))) Jm7 Js6) ?_
 refine AW.c 1 U3 (ca2 Jm7 Js6) ?_
 refine AW.q fun K J0=>?_
 refine AW.c 1 U3 Tru ?_
 apply AW.y rfl
 refine AW.c 1 U3 Tru ?_
 exact AW.ret (hQ _ _ _ (RetP.z hwf Tru))
theorem Va3 (r:RY)(P:PL)(near far A B C D R t1 t2:Int)(m:Ja1)(hE:BalE r P A B C D R t1 t2)(hk:P.kind=0)(g:¬D<0)(ga:(A ==0)=true):Ctr Tryz.prog 200 [.agg (ryC r),.agg (plC P),.one (.int .i64 near),.one (.int .i64 far)] m (.tup [(true,htC ht0),(false,[.bool false])]) m:=by
 refine Ctr.en Tryz.func200 [.cell 8 183,.tmp 9] 98 fun hwf Q hQ=>?_
 obtain ⟨hA,hB,hC,hD,hR,h1,h2⟩:=hE
 have gx:=Jg4 P
 have ng:=Jt1 B
 have hv:htC ht0=[.int .i64 0,.int .i64 0,.int .i64 0,.int .i64 0,.int .i64 0,.int .i64 0,.int .i64 0,.int .i64 0]:=rfl
 rw [hv] at hQ
 have U4:=ca4 gx @Jh4 @Jj3 (ca4 @Ja4 @Jm9 hA (ca4 hB hC hD (ca4 hR h1 h2 (ca4 g @decide_true @decide_false (ca2 ga ng.symm)))))
 refine AW.c 5 U4 (ca3 (Jg3 r.o (P.P 0)) (Je3 r.d r.d) (Je3 (Jb4 r.o (P.P 0)) r.d)) ?_
 refine AW.d [.rd 0,.rd 0,.ext,.val,.rd 0,.val,.rd 0,.ext,.ext,.val] fol U4 (ca3 (Je3 (Jb4 r.o (P.P 0)) (Jb4 r.o (P.P 0))) Jg6 Ji7) ?_
 refine AW.c 1 U4 (ca2 Jg6 Ji7) ?_
 refine AW.q fun K J0=>?_
 refine AW.c 1 U4 Tru ?_
 apply AW.y rfl
 refine AW.c 1 U4 Tru ?_
 exact AW.ret (hQ _ _ _ (RetP.z hwf Tru))
theorem Xk7 (r:RY)(P:PL)(near far A B C D R t1 t2:Int)(m:Ja1)(hE:BalE r P A B C D R t1 t2)(hk:P.kind=0)(g:¬D<0)(ga:(A ==0)=false)(g1:Kb1 P r near far t1):Ctr Tryz.prog 195 [.agg (ryC r),.agg (plC P),.one (.int .i64 near),.one (.int .i64 far)] m (.tup [(true,htC (htV r P t1)),(false,[.bool true])]) m:=by
 refine Ctr.en Tryz.func195 [.cell 8 165,.tmp 9] 96 fun hwf Q hQ=>?_
 obtain ⟨hA,hB,hC,hD,hR,h1,h2⟩:=hE
 have gx:=Jg4 P
 have ng:=Jt1 B
 have hn:Jj8 r P t1=Kn9 r.d (Jb8 (Jb4 (Je4 r t1) (P.P 0))):=by unfold Jj8;rw [if_pos hk]
 have hv:htC (htV r P t1)=.int .i64 t1::.int .i64 0::(c3C (Je4 r t1)++c3C (Kn9 r.d (Jb8 (Jb4 (Je4 r t1) (P.P 0))))):=by unfold htV htC;rw [hn]
 rw [hv] at hQ
 have U5:=ca4 gx @Jh4 @Jj3 (ca4 @Ja4 @Jm9 hA (ca4 hB hC hD (ca4 hR h1 h2 (ca4 g @decide_true @decide_false ga))))
 refine AW.c 2 U5 (Jk4 r.o (P.P 0)) ?_
 refine AW.d [.val,.rd 0,.val,.rd 0,.ext,.rd 0,.val,.rd 0,.ext,.val,.val] fol U5 (ca2 (Jg7 r.d r.d) (Jg7 (Jb4 r.o (P.P 0)) r.d)) ?_
 refine AW.d [.rd 0,.rd 0,.ext,.val,.rd 0,.val,.rd 0,.ext,.ext,.val] fol U5 (ca3 (Jg7 (Jb4 r.o (P.P 0)) (Jb4 r.o (P.P 0))) Jm7 Js6) ?_
 refine AW.c 1 U5 (ca2 Jm7 Js6) ?_
 refine AW.q fun K J0=>?_
 refine AW.c 1 U5 Tru ?_
 apply AW.x rfl
 apply AW.z
 apply J0
 refine AW.c 1 U5 Kz4 ?_
 refine AW.q fun K J0=>?_
 refine AW.c 1 U5 (ca2 Xf7 Js6) ?_
 apply AW.b
 refine AW.r 3 ?_
 refine ARounds.s fun K J1=>?_
 refine AW.c 1 U5 Tru ?_
 refine AW.ifT rfl ?_
 refine AW.q fun K J2=>?_
 apply AW.b
 refine AW.c 1 U5 Tru ?_
 refine AW.d [.rd 0,.rd 0,.val,.val,.ext,.val,.val,.ext,.val,.val,.val,.fl,.wr,.val] fol U5 (ca2 Jr4 (Km7 P r t1 near far _ true ⟨fun _=>g1,fun _=>rfl⟩)) ?_
 refine AW.c 1 U5 Tru ?_
 apply AW.y rfl
 refine AW.d [.rd 0,.val,.rd 0,.val,.val,.rd 0,.ext,.ext,.ext,.val,.wr] fol U5 (ca3 (Jk4 (Je4 r t1) (P.P 0)) (Jr5 (Jb4 (Je4 r t1) (P.P 0))) (Kw4 r (Jb8 (Jb4 (Je4 r t1) (P.P 0))))) ?_
 refine AW.c 1 U5 Tru ?_
 exact AW.ret (hQ _ _ _ (RetP.z hwf Tru))
theorem Vn7 (r:RY)(P:PL)(near far A B C D R t1 t2:Int)(m:Ja1)(hE:BalE r P A B C D R t1 t2)(hk:P.kind=0)(g:¬D<0)(ga:(A ==0)=false)(g1:Kb1 P r near far t1):Ctr Tryz.prog 200 [.agg (ryC r),.agg (plC P),.one (.int .i64 near),.one (.int .i64 far)] m (.tup [(true,htC (htV r P t1)),(false,[.bool true])]) m:=by
 refine Ctr.en Tryz.func200 [.cell 8 183,.tmp 9] 98 fun hwf Q hQ=>?_
 obtain ⟨hA,hB,hC,hD,hR,h1,h2⟩:=hE
 have gx:=Jg4 P
 have ng:=Jt1 B
 have hn:Jj8 r P t1=Kn9 r.d (Jb8 (Jb4 (Je4 r t1) (P.P 0))):=by unfold Jj8;rw [if_pos hk]
 have hv:htC (htV r P t1)=.int .i64 t1::.int .i64 0::(c3C (Je4 r t1)++c3C (Kn9 r.d (Jb8 (Jb4 (Je4 r t1) (P.P 0))))):=by unfold htV htC;rw [hn]
 rw [hv] at hQ
 have U6:=ca4 gx @Jh4 @Jj3 (ca4 @Ja4 @Jm9 hA (ca4 hB hC hD (ca4 hR h1 h2 (ca4 g @decide_true @decide_false (ca2 ga ng.symm)))))
 refine AW.c 5 U6 (ca3 (Jg3 r.o (P.P 0)) (Je3 r.d r.d) (Je3 (Jb4 r.o (P.P 0)) r.d)) ?_
 refine AW.d [.rd 0,.rd 0,.ext,.val,.rd 0,.val,.rd 0,.ext,.ext,.val] fol U6 (ca3 (Je3 (Jb4 r.o (P.P 0)) (Jb4 r.o (P.P 0))) Jg6 Ji7) ?_
 refine AW.c 1 U6 (ca2 Jg6 Ji7) ?_
 refine AW.q fun K J0=>?_
 refine AW.c 1 U6 Tru ?_
 apply AW.x rfl
 apply AW.z
 apply J0
 refine AW.c 2 U6 (ca3 Kk4 Ji7 Jh6) ?_
 refine AW.q fun K J0=>?_
 refine AW.c 1 U6 (Kk6 P r t1 near far _ true ⟨fun _=>g1,fun _=>rfl⟩) ?_
 apply AW.x rfl
 apply AW.z
 apply J0
 refine AW.c 1 U6 (Ku2 r t1) ?_
 refine AW.d [.val,.rd 0,.rd 0,.rd 0,.rd 0,.ext,.ext,.ext,.val,.wr,.val] fol U6 (ca3 (Jg3 (Je4 r t1) (P.P 0)) (Jn1 (Jb4 (Je4 r t1) (P.P 0))) (Kk7 r (Jb8 (Jb4 (Je4 r t1) (P.P 0))))) ?_
 exact AW.ret (hQ _ _ _ (RetP.z hwf Tru))
theorem Xk6 (r:RY)(P:PL)(near far A B C D R t1 t2:Int)(m:Ja1)(hE:BalE r P A B C D R t1 t2)(hk:P.kind=0)(g:¬D<0)(ga:(A ==0)=false)(g1:¬Kb1 P r near far t1)(g2:Kb1 P r near far t2):Ctr Tryz.prog 195 [.agg (ryC r),.agg (plC P),.one (.int .i64 near),.one (.int .i64 far)] m (.tup [(true,htC (htV r P t2)),(false,[.bool true])]) m:=by
 refine Ctr.en Tryz.func195 [.cell 8 165,.tmp 9] 96 fun hwf Q hQ=>?_
 obtain ⟨hA,hB,hC,hD,hR,h1,h2⟩:=hE
 have gx:=Jg4 P
 have ng:=Jt1 B
 have hn:Jj8 r P t2=Kn9 r.d (Jb8 (Jb4 (Je4 r t2) (P.P 0))):=by unfold Jj8;rw [if_pos hk]
 have hv:htC (htV r P t2)=.int .i64 t2::.int .i64 0::(c3C (Je4 r t2)++c3C (Kn9 r.d (Jb8 (Jb4 (Je4 r t2) (P.P 0))))):=by unfold htV htC;rw [hn]
 rw [hv] at hQ
 have U7:=ca4 gx @Jh4 @Jj3 (ca4 @Ja4 @Jm9 hA (ca4 hB hC hD (ca4 hR h1 h2 (ca4 g @decide_true @decide_false ga))))
 refine AW.c 2 U7 (Jk4 r.o (P.P 0)) ?_
 refine AW.d [.val,.rd 0,.val,.rd 0,.ext,.rd 0,.val,.rd 0,.ext,.val,.val] fol U7 (ca2 (Jg7 r.d r.d) (Jg7 (Jb4 r.o (P.P 0)) r.d)) ?_
 refine AW.d [.rd 0,.rd 0,.ext,.val,.rd 0,.val,.rd 0,.ext,.ext,.val] fol U7 (ca3 (Jg7 (Jb4 r.o (P.P 0)) (Jb4 r.o (P.P 0))) Jm7 Js6) ?_
 refine AW.c 1 U7 (ca2 Jm7 Js6) ?_
 refine AW.q fun K J0=>?_
 refine AW.c 1 U7 Tru ?_
 apply AW.x rfl
 apply AW.z
 apply J0
 refine AW.c 1 U7 Kz4 ?_
 refine AW.q fun K J0=>?_
 refine AW.c 1 U7 (ca2 Xf7 Js6) ?_
 apply AW.b
 refine AW.r 3 ?_
 refine ARounds.s fun K J1=>?_
 refine AW.c 1 U7 Tru ?_
 refine AW.ifT rfl ?_
 refine AW.q fun K J2=>?_
 apply AW.b
 refine AW.c 1 U7 Tru ?_
 refine AW.d [.rd 0,.rd 0,.val,.val,.ext,.val,.val,.ext,.val,.val,.val,.fl,.wr,.val] fol U7 (ca2 Jr4 (Km7 P r t1 near far _ false ⟨fun h=>(by cases h),fun h=>absurd h g1⟩)) ?_
 refine AW.c 1 U7 Tru ?_
 apply AW.x rfl
 apply AW.z
 apply Ja8
 apply J2
 refine AW.g U7 Tru ?_
 apply J1
 refine ARounds.s fun K J1=>?_
 refine AW.c 1 U7 Tru ?_
 refine AW.ifT rfl ?_
 refine AW.q fun K J2=>?_
 apply AW.b
 refine AW.c 1 U7 Tru ?_
 refine AW.d [.rd 0,.rd 0,.val,.val,.ext,.val,.val,.ext,.val,.val,.val,.fl,.wr,.val] fol U7 (ca2 Jr4 (Km7 P r t2 near far _ true ⟨fun _=>g2,fun _=>rfl⟩)) ?_
 refine AW.c 1 U7 Tru ?_
 apply AW.y rfl
 refine AW.d [.rd 0,.val,.rd 0,.val,.val,.rd 0,.ext,.ext,.ext,.val,.wr] fol U7 (ca3 (Jk4 (Je4 r t2) (P.P 0)) (Jr5 (Jb4 (Je4 r t2) (P.P 0))) (Kw4 r (Jb8 (Jb4 (Je4 r t2) (P.P 0))))) ?_
 refine AW.c 1 U7 Tru ?_
 exact AW.ret (hQ _ _ _ (RetP.z hwf Tru))
theorem Vn6 (r:RY)(P:PL)(near far A B C D R t1 t2:Int)(m:Ja1)(hE:BalE r P A B C D R t1 t2)(hk:P.kind=0)(g:¬D<0)(ga:(A ==0)=false)(g1:¬Kb1 P r near far t1)(g2:Kb1 P r near far t2):Ctr Tryz.prog 200 [.agg (ryC r),.agg (plC P),.one (.int .i64 near),.one (.int .i64 far)] m (.tup [(true,htC (htV r P t2)),(false,[.bool true])]) m:=by
 refine Ctr.en Tryz.func200 [.cell 8 183,.tmp 9] 98 fun hwf Q hQ=>?_
 obtain ⟨hA,hB,hC,hD,hR,h1,h2⟩:=hE
 have gx:=Jg4 P
 have ng:=Jt1 B
 have hn:Jj8 r P t2=Kn9 r.d (Jb8 (Jb4 (Je4 r t2) (P.P 0))):=by unfold Jj8;rw [if_pos hk]
 have hv:htC (htV r P t2)=.int .i64 t2::.int .i64 0::(c3C (Je4 r t2)++c3C (Kn9 r.d (Jb8 (Jb4 (Je4 r t2) (P.P 0))))):=by unfold htV htC;rw [hn]
 rw [hv] at hQ
 have U8:=ca4 gx @Jh4 @Jj3 (ca4 @Ja4 @Jm9 hA (ca4 hB hC hD (ca4 hR h1 h2 (ca4 g @decide_true @decide_false (ca2 ga ng.symm)))))
 refine AW.c 5 U8 (ca3 (Jg3 r.o (P.P 0)) (Je3 r.d r.d) (Je3 (Jb4 r.o (P.P 0)) r.d)) ?_
 refine AW.d [.rd 0,.rd 0,.ext,.val,.rd 0,.val,.rd 0,.ext,.ext,.val] fol U8 (ca3 (Je3 (Jb4 r.o (P.P 0)) (Jb4 r.o (P.P 0))) Jg6 Ji7) ?_
 refine AW.c 1 U8 (ca2 Jg6 Ji7) ?_
 refine AW.q fun K J0=>?_
 refine AW.c 1 U8 Tru ?_
 apply AW.x rfl
 apply AW.z
 apply J0
 refine AW.c 2 U8 (ca3 Kk4 Ji7 Jh6) ?_
 refine AW.q fun K J0=>?_
 refine AW.c 1 U8 (Kk6 P r t1 near far _ false ⟨fun h=>(by cases h),fun h=>absurd h g1⟩) ?_
 apply AW.y rfl
 refine AW.c 2 U8 (ca3 Ji7 Jh6 (Kk6 P r t2 near far _ true ⟨fun _=>g2,fun _=>rfl⟩)) ?_
 apply AW.x rfl
 apply AW.z
 apply J0
 refine AW.c 1 U8 (Ku2 r t2) ?_
 refine AW.d [.val,.rd 0,.rd 0,.rd 0,.rd 0,.ext,.ext,.ext,.val,.wr,.val] fol U8 (ca3 (Jg3 (Je4 r t2) (P.P 0)) (Jn1 (Jb4 (Je4 r t2) (P.P 0))) (Kk7 r (Jb8 (Jb4 (Je4 r t2) (P.P 0))))) ?_
 exact AW.ret (hQ _ _ _ (RetP.z hwf Tru))
theorem Xx3 (r:RY)(P:PL)(near far A B C D R t1 t2:Int)(m:Ja1)(hE:BalE r P A B C D R t1 t2)(hk:P.kind=0)(g:¬D<0)(ga:(A ==0)=false)(g1:¬Kb1 P r near far t1)(g2:¬Kb1 P r near far t2):Ctr Tryz.prog 195 [.agg (ryC r),.agg (plC P),.one (.int .i64 near),.one (.int .i64 far)] m (.tup [(true,htC ht0),(false,[.bool false])]) m:=by
 refine Ctr.en Tryz.func195 [.cell 8 165,.tmp 9] 96 fun hwf Q hQ=>?_
 obtain ⟨hA,hB,hC,hD,hR,h1,h2⟩:=hE
 have gx:=Jg4 P
 have ng:=Jt1 B
 have hv:htC ht0=[.int .i64 0,.int .i64 0,.int .i64 0,.int .i64 0,.int .i64 0,.int .i64 0,.int .i64 0,.int .i64 0]:=rfl
 rw [hv] at hQ
 have U9:=ca4 gx @Jh4 @Jj3 (ca4 @Ja4 @Jm9 hA (ca4 hB hC hD (ca4 hR h1 h2 (ca4 g @decide_true @decide_false ga))))
 refine AW.c 2 U9 (Jk4 r.o (P.P 0)) ?_
 refine AW.d [.val,.rd 0,.val,.rd 0,.ext,.rd 0,.val,.rd 0,.ext,.val,.val] fol U9 (ca2 (Jg7 r.d r.d) (Jg7 (Jb4 r.o (P.P 0)) r.d)) ?_
 refine AW.d [.rd 0,.rd 0,.ext,.val,.rd 0,.val,.rd 0,.ext,.ext,.val] fol U9 (ca3 (Jg7 (Jb4 r.o (P.P 0)) (Jb4 r.o (P.P 0))) Jm7 Js6) ?_
 refine AW.c 1 U9 (ca2 Jm7 Js6) ?_
 refine AW.q fun K J0=>?_
 refine AW.c 1 U9 Tru ?_
 apply AW.x rfl
 apply AW.z
 apply J0
 refine AW.c 1 U9 Kz4 ?_
 refine AW.q fun K J0=>?_
 refine AW.c 1 U9 (ca2 Xf7 Js6) ?_
 apply AW.b
 refine AW.r 3 ?_
 refine ARounds.s fun K J1=>?_
 refine AW.c 1 U9 Tru ?_
 refine AW.ifT rfl ?_
 refine AW.q fun K J2=>?_
 apply AW.b
 refine AW.c 1 U9 Tru ?_
 refine AW.d [.rd 0,.rd 0,.val,.val,.ext,.val,.val,.ext,.val,.val,.val,.fl,.wr,.val] fol U9 (ca2 Jr4 (Km7 P r t1 near far _ false ⟨fun h=>(by cases h),fun h=>absurd h g1⟩)) ?_
 refine AW.c 1 U9 Tru ?_
 apply AW.x rfl
 apply AW.z
 apply Ja8
 apply J2
 refine AW.g U9 Tru ?_
 apply J1
 refine ARounds.s fun K J1=>?_
 refine AW.c 1 U9 Tru ?_
 refine AW.ifT rfl ?_
 refine AW.q fun K J2=>?_
 apply AW.b
 refine AW.c 1 U9 Tru ?_
 refine AW.d [.rd 0,.rd 0,.val,.val,.ext,.val,.val,.ext,.val,.val,.val,.fl,.wr,.val] fol U9 (ca2 Jr4 (Km7 P r t2 near far _ false ⟨fun h=>(by cases h),fun h=>absurd h g2⟩)) ?_
 refine AW.c 1 U9 Tru ?_
 apply AW.x rfl
 apply AW.z
 apply Ja8
 apply J2
 refine AW.g U9 Tru ?_
 apply J1
 refine ARounds.s fun K J1=>?_
 refine AW.c 1 U9 Tru ?_
 refine AW.q fun K J2=>?_
 apply AW.x rfl
 apply AW.v
 apply Jb0
 apply Jb0
 apply Ja6
 apply J0
 refine AW.c 1 U9 Tru ?_
 exact AW.ret (hQ _ _ _ (RetP.z hwf Tru))
theorem Xe7 (r:RY)(P:PL)(near far A B C D R t1 t2:Int)(m:Ja1)(hE:BalE r P A B C D R t1 t2)(hk:P.kind=0)(g:¬D<0)(ga:(A ==0)=false)(g1:¬Kb1 P r near far t1)(g2:¬Kb1 P r near far t2):Ctr Tryz.prog 200 [.agg (ryC r),.agg (plC P),.one (.int .i64 near),.one (.int .i64 far)] m (.tup [(true,htC ht0),(false,[.bool false])]) m:=by
 refine Ctr.en Tryz.func200 [.cell 8 183,.tmp 9] 98 fun hwf Q hQ=>?_
 obtain ⟨hA,hB,hC,hD,hR,h1,h2⟩:=hE
 have gx:=Jg4 P
 have ng:=Jt1 B
 have hv:htC ht0=[.int .i64 0,.int .i64 0,.int .i64 0,.int .i64 0,.int .i64 0,.int .i64 0,.int .i64 0,.int .i64 0]:=rfl
 rw [hv] at hQ
 have U10:=ca4 gx @Jh4 @Jj3 (ca4 @Ja4 @Jm9 hA (ca4 hB hC hD (ca4 hR h1 h2 (ca4 g @decide_true @decide_false (ca2 ga ng.symm)))))
 refine AW.c 5 U10 (ca3 (Jg3 r.o (P.P 0)) (Je3 r.d r.d) (Je3 (Jb4 r.o (P.P 0)) r.d)) ?_
 refine AW.d [.rd 0,.rd 0,.ext,.val,.rd 0,.val,.rd 0,.ext,.ext,.val] fol U10 (ca3 (Je3 (Jb4 r.o (P.P 0)) (Jb4 r.o (P.P 0))) Jg6 Ji7) ?_
 refine AW.c 1 U10 (ca2 Jg6 Ji7) ?_
 refine AW.q fun K J0=>?_
 refine AW.c 1 U10 Tru ?_
 apply AW.x rfl
 apply AW.z
 apply J0
 refine AW.c 2 U10 (ca3 Kk4 Ji7 Jh6) ?_
 refine AW.q fun K J0=>?_
 refine AW.c 1 U10 (Kk6 P r t1 near far _ false ⟨fun h=>(by cases h),fun h=>absurd h g1⟩) ?_
 apply AW.y rfl
 refine AW.c 2 U10 (ca3 Ji7 Jh6 (Kk6 P r t2 near far _ false ⟨fun h=>(by cases h),fun h=>absurd h g2⟩)) ?_
 apply AW.y rfl
 refine AW.c 1 U10 Tru ?_
 exact AW.ret (hQ _ _ _ (RetP.z hwf Tru))
structure FacE (r:RY)(P:PL)(e1 e2 h s q:V)(D U W t1:Int):Prop where
 h1:e1=Jb4 (P.P 1) (P.P 0)
 h2:e2=Jb4 (P.P 2) (P.P 0)
 hh:h=Jd4 r.d e2
 hD:Je9 e1 h=D
 hs:s=Jb4 r.o (P.P 0)
 hU:Jh2 (Je9 s h) D=U
 hq:q=Jd4 s e1
 hW:Jh2 (Je9 r.d q) D=W
 ht:Jh2 (Je9 e2 q) D=t1
theorem Vr8 (r:RY)(P:PL)(near far:Int)(e1 e2 h s q:V)(D U W t1:Int)(m:Ja1)(hE:FacE r P e1 e2 h s q D U W t1)(hk:¬P.kind=0)(g0:(D ==0)=true):Ctr Tryz.prog 196 [.agg (ryC r),.agg (plC P),.one (.int .i64 near),.one (.int .i64 far)] m (.tup [(true,htC ht0),(false,[.bool false])]) m:=by
 refine Ctr.en Tryz.func196 [.cell 8 165,.tmp 9] 101 fun hwf Q hQ=>?_
 obtain ⟨h1,h2,hh,hD,hs,hU,hq,hW,ht⟩:=hE
 have gx:=Jg4 P
 have hv:htC ht0=[.int .i64 0,.int .i64 0,.int .i64 0,.int .i64 0,.int .i64 0,.int .i64 0,.int .i64 0,.int .i64 0]:=rfl
 rw [hv] at hQ
 have U1:=ca4 gx @Jh4 @Jj3 (ca4 @Ja4 @Jm9 hD (ca4 hU hW ht (ca3 @decide_true @decide_false g0)))
 refine AW.c 1 U1 Tru ?_
 have q_1:=Jk4 (P.P 1) (P.P 0)
 rw [<-h1] at q_1
 have q_2:=Jk4 (P.P 2) (P.P 0)
 rw [<-h2] at q_2
 refine AW.d [.val,.val,.rd 0,.val,.val,.rd 0,.ext,.val,.val,.rd 0,.val,.val,.rd 0,.ext,.fl,.fl,.wr,.wr] fol U1 (ca2 q_1 q_2) ?_
 have q_3:=Jn7 r.d e2
 rw [<-hh] at q_3
 refine AW.c 2 U1 (ca2 q_3 (Jg7 e1 h)) ?_
 refine AW.q fun K J0=>?_
 refine AW.c 1 U1 Tru ?_
 apply AW.y rfl
 refine AW.c 1 U1 Tru ?_
 exact AW.ret (hQ _ _ _ (RetP.z hwf Tru))
theorem Qz8 (r:RY)(P:PL)(near far:Int)(e1 e2 h s q:V)(D U W t1:Int)(m:Ja1)(hE:FacE r P e1 e2 h s q D U W t1)(hk:¬P.kind=0)(g0:(D ==0)=true):Ctr Tryz.prog 201 [.agg (ryC r),.agg (plC P),.one (.int .i64 near),.one (.int .i64 far)] m (.tup [(true,htC ht0),(false,[.bool false])]) m:=by
 refine Ctr.en Tryz.func201 [.cell 8 183,.tmp 9] 100 fun hwf Q hQ=>?_
 obtain ⟨h1,h2,hh,hD,hs,hU,hq,hW,ht⟩:=hE
 have gx:=Jg4 P
 have hv:htC ht0=[.int .i64 0,.int .i64 0,.int .i64 0,.int .i64 0,.int .i64 0,.int .i64 0,.int .i64 0,.int .i64 0]:=rfl
 rw [hv] at hQ
 have q_4:=Jg3 (P.P 1) (P.P 0)
 rw [<-h1] at q_4
 have q_5:=Jg3 (P.P 2) (P.P 0)
 rw [<-h2] at q_5
 have q_6:=Ji9 r.d e2
 rw [<-hh] at q_6
 have U2:=ca4 gx @Jh4 @Jj3 (ca4 @Ja4 @Jm9 hD (ca4 hU hW ht (ca3 @decide_true @decide_false g0)))
 refine AW.c 5 U2 (ca4 q_4 q_5 q_6 (Je3 e1 h)) ?_
 refine AW.q fun K J0=>?_
 refine AW.c 1 U2 Tru ?_
 apply AW.y rfl
 refine AW.c 1 U2 Tru ?_
 exact AW.ret (hQ _ _ _ (RetP.z hwf Tru))
theorem Vr7 (r:RY)(P:PL)(near far:Int)(e1 e2 h s q:V)(D U W t1:Int)(m:Ja1)(hE:FacE r P e1 e2 h s q D U W t1)(hk:¬P.kind=0)(g0:(D ==0)=false)(g1:U<0):Ctr Tryz.prog 196 [.agg (ryC r),.agg (plC P),.one (.int .i64 near),.one (.int .i64 far)] m (.tup [(true,htC ht0),(false,[.bool false])]) m:=by
 refine Ctr.en Tryz.func196 [.cell 8 165,.tmp 9] 101 fun hwf Q hQ=>?_
 obtain ⟨h1,h2,hh,hD,hs,hU,hq,hW,ht⟩:=hE
 have gx:=Jg4 P
 have hv:htC ht0=[.int .i64 0,.int .i64 0,.int .i64 0,.int .i64 0,.int .i64 0,.int .i64 0,.int .i64 0,.int .i64 0]:=rfl
 rw [hv] at hQ
 have U3:=ca4 gx @Jh4 @Jj3 (ca4 @Ja4 @Jm9 hD (ca4 hU hW ht (ca4 @decide_true @decide_false g0 g1)))
 refine AW.c 1 U3 Tru ?_
 have q_7:=Jk4 (P.P 1) (P.P 0)
 rw [<-h1] at q_7
 have q_8:=Jk4 (P.P 2) (P.P 0)
 rw [<-h2] at q_8
 refine AW.d [.val,.val,.rd 0,.val,.val,.rd 0,.ext,.val,.val,.rd 0,.val,.val,.rd 0,.ext,.fl,.fl,.wr,.wr] fol U3 (ca2 q_7 q_8) ?_
 have q_9:=Jn7 r.d e2
 rw [<-hh] at q_9
 refine AW.c 2 U3 (ca2 q_9 (Jg7 e1 h)) ?_
 refine AW.q fun K J0=>?_
 refine AW.c 1 U3 Tru ?_
 apply AW.x rfl
 apply AW.z
 apply J0
 have q_10:=Jk4 r.o (P.P 0)
 rw [<-hs] at q_10
 have q_11:=Jn7 s e1
 rw [<-hq] at q_11
 refine AW.c 4 U3 (ca4 q_10 (Jg7 s h) Jr4 (ca2 q_11 (Jg7 r.d q))) ?_
 refine AW.q fun K J0=>?_
 refine AW.sr 1 fun K J1=>?_
 simp only [push_cast,simprocAttr,U3]
 apply J1
 apply AW.y rfl
 refine AW.c 1 U3 Tru ?_
 exact AW.ret (hQ _ _ _ (RetP.z hwf Tru))
theorem Qz7 (r:RY)(P:PL)(near far:Int)(e1 e2 h s q:V)(D U W t1:Int)(m:Ja1)(hE:FacE r P e1 e2 h s q D U W t1)(hk:¬P.kind=0)(g0:(D ==0)=false)(g1:U<0):Ctr Tryz.prog 201 [.agg (ryC r),.agg (plC P),.one (.int .i64 near),.one (.int .i64 far)] m (.tup [(true,htC ht0),(false,[.bool false])]) m:=by
 refine Ctr.en Tryz.func201 [.cell 8 183,.tmp 9] 100 fun hwf Q hQ=>?_
 obtain ⟨h1,h2,hh,hD,hs,hU,hq,hW,ht⟩:=hE
 have gx:=Jg4 P
 have hv:htC ht0=[.int .i64 0,.int .i64 0,.int .i64 0,.int .i64 0,.int .i64 0,.int .i64 0,.int .i64 0,.int .i64 0]:=rfl
 rw [hv] at hQ
 have q_12:=Jg3 (P.P 1) (P.P 0)
 rw [<-h1] at q_12
 have q_13:=Jg3 (P.P 2) (P.P 0)
 rw [<-h2] at q_13
 have q_14:=Ji9 r.d e2
 rw [<-hh] at q_14
 have U4:=ca4 gx @Jh4 @Jj3 (ca4 @Ja4 @Jm9 hD (ca4 hU hW ht (ca4 @decide_true @decide_false g0 g1)))
 refine AW.c 5 U4 (ca4 q_12 q_13 q_14 (Je3 e1 h)) ?_
 refine AW.q fun K J0=>?_
 refine AW.c 1 U4 Tru ?_
 apply AW.x rfl
 apply AW.z
 apply J0
 have q_15:=Jg3 r.o (P.P 0)
 rw [<-hs] at q_15
 have q_16:=Ji9 s e1
 rw [<-hq] at q_16
 refine AW.c 4 U4 (ca4 q_15 (Je3 s h) Jh6 (ca2 q_16 (Je3 r.d q))) ?_
 refine AW.q fun K J0=>?_
 refine AW.sr 1 fun K J1=>?_
 simp only [push_cast,simprocAttr,U4]
 apply J1
 apply AW.y rfl
 refine AW.c 1 U4 Tru ?_
 exact AW.ret (hQ _ _ _ (RetP.z hwf Tru))
theorem Vr6 (r:RY)(P:PL)(near far:Int)(e1 e2 h s q:V)(D U W t1:Int)(m:Ja1)(hE:FacE r P e1 e2 h s q D U W t1)(hk:¬P.kind=0)(g0:(D ==0)=false)(g1:¬U<0)(g2:W<0):Ctr Tryz.prog 196 [.agg (ryC r),.agg (plC P),.one (.int .i64 near),.one (.int .i64 far)] m (.tup [(true,htC ht0),(false,[.bool false])]) m:=by
 refine Ctr.en Tryz.func196 [.cell 8 165,.tmp 9] 101 fun hwf Q hQ=>?_
 obtain ⟨h1,h2,hh,hD,hs,hU,hq,hW,ht⟩:=hE
 have gx:=Jg4 P
 have hv:htC ht0=[.int .i64 0,.int .i64 0,.int .i64 0,.int .i64 0,.int .i64 0,.int .i64 0,.int .i64 0,.int .i64 0]:=rfl
 rw [hv] at hQ
 have U5:=ca4 gx @Jh4 @Jj3 (ca4 @Ja4 @Jm9 hD (ca4 hU hW ht (ca4 @decide_true @decide_false g0 (ca2 g1 g2))))
 refine AW.c 1 U5 Tru ?_
 have q_17:=Jk4 (P.P 1) (P.P 0)
 rw [<-h1] at q_17
 have q_18:=Jk4 (P.P 2) (P.P 0)
 rw [<-h2] at q_18
 refine AW.d [.val,.val,.rd 0,.val,.val,.rd 0,.ext,.val,.val,.rd 0,.val,.val,.rd 0,.ext,.fl,.fl,.wr,.wr] fol U5 (ca2 q_17 q_18) ?_
 have q_19:=Jn7 r.d e2
 rw [<-hh] at q_19
 refine AW.c 2 U5 (ca2 q_19 (Jg7 e1 h)) ?_
 refine AW.q fun K J0=>?_
 refine AW.c 1 U5 Tru ?_
 apply AW.x rfl
 apply AW.z
 apply J0
 have q_20:=Jk4 r.o (P.P 0)
 rw [<-hs] at q_20
 have q_21:=Jn7 s e1
 rw [<-hq] at q_21
 refine AW.c 4 U5 (ca4 q_20 (Jg7 s h) Jr4 (ca2 q_21 (Jg7 r.d q))) ?_
 refine AW.q fun K J0=>?_
 refine AW.sr 1 fun K J1=>?_
 simp only [push_cast,simprocAttr,U5]
 apply J1
 apply AW.y rfl
 refine AW.c 1 U5 Tru ?_
 exact AW.ret (hQ _ _ _ (RetP.z hwf Tru))
theorem Qz6 (r:RY)(P:PL)(near far:Int)(e1 e2 h s q:V)(D U W t1:Int)(m:Ja1)(hE:FacE r P e1 e2 h s q D U W t1)(hk:¬P.kind=0)(g0:(D ==0)=false)(g1:¬U<0)(g2:W<0):Ctr Tryz.prog 201 [.agg (ryC r),.agg (plC P),.one (.int .i64 near),.one (.int .i64 far)] m (.tup [(true,htC ht0),(false,[.bool false])]) m:=by
 refine Ctr.en Tryz.func201 [.cell 8 183,.tmp 9] 100 fun hwf Q hQ=>?_
 obtain ⟨h1,h2,hh,hD,hs,hU,hq,hW,ht⟩:=hE
 have gx:=Jg4 P
 have hv:htC ht0=[.int .i64 0,.int .i64 0,.int .i64 0,.int .i64 0,.int .i64 0,.int .i64 0,.int .i64 0,.int .i64 0]:=rfl
 rw [hv] at hQ
 have q_22:=Jg3 (P.P 1) (P.P 0)
 rw [<-h1] at q_22
 have q_23:=Jg3 (P.P 2) (P.P 0)
 rw [<-h2] at q_23
 have q_24:=Ji9 r.d e2
 rw [<-hh] at q_24
 have U6:=ca4 gx @Jh4 @Jj3 (ca4 @Ja4 @Jm9 hD (ca4 hU hW ht (ca4 @decide_true @decide_false g0 (ca2 g1 g2))))
 refine AW.c 5 U6 (ca4 q_22 q_23 q_24 (Je3 e1 h)) ?_
 refine AW.q fun K J0=>?_
 refine AW.c 1 U6 Tru ?_
 apply AW.x rfl
 apply AW.z
 apply J0
 have q_25:=Jg3 r.o (P.P 0)
 rw [<-hs] at q_25
 have q_26:=Ji9 s e1
 rw [<-hq] at q_26
 refine AW.c 4 U6 (ca4 q_25 (Je3 s h) Jh6 (ca2 q_26 (Je3 r.d q))) ?_
 refine AW.q fun K J0=>?_
 refine AW.sr 1 fun K J1=>?_
 simp only [push_cast,simprocAttr,U6]
 apply J1
 apply AW.y rfl
 refine AW.c 1 U6 Tru ?_
 exact AW.ret (hQ _ _ _ (RetP.z hwf Tru))
theorem Vr5 (r:RY)(P:PL)(near far:Int)(e1 e2 h s q:V)(D U W t1:Int)(m:Ja1)(hE:FacE r P e1 e2 h s q D U W t1)(hk:¬P.kind=0)(g0:(D ==0)=false)(g1:¬U<0)(g2:¬W<0)(g3:65536<Jd6 U W):Ctr Tryz.prog 196 [.agg (ryC r),.agg (plC P),.one (.int .i64 near),.one (.int .i64 far)] m (.tup [(true,htC ht0),(false,[.bool false])]) m:=by
 refine Ctr.en Tryz.func196 [.cell 8 165,.tmp 9] 101 fun hwf Q hQ=>?_
 obtain ⟨h1,h2,hh,hD,hs,hU,hq,hW,ht⟩:=hE
 have gx:=Jg4 P
 have hv:htC ht0=[.int .i64 0,.int .i64 0,.int .i64 0,.int .i64 0,.int .i64 0,.int .i64 0,.int .i64 0,.int .i64 0]:=rfl
 rw [hv] at hQ
 have U7:=ca4 gx @Jh4 @Jj3 (ca4 @Ja4 @Jm9 hD (ca4 hU hW ht (ca4 @decide_true @decide_false g0 (ca3 g1 g2 g3))))
 refine AW.c 1 U7 Tru ?_
 have q_27:=Jk4 (P.P 1) (P.P 0)
 rw [<-h1] at q_27
 have q_28:=Jk4 (P.P 2) (P.P 0)
 rw [<-h2] at q_28
 refine AW.d [.val,.val,.rd 0,.val,.val,.rd 0,.ext,.val,.val,.rd 0,.val,.val,.rd 0,.ext,.fl,.fl,.wr,.wr] fol U7 (ca2 q_27 q_28) ?_
 have q_29:=Jn7 r.d e2
 rw [<-hh] at q_29
 refine AW.c 2 U7 (ca2 q_29 (Jg7 e1 h)) ?_
 refine AW.q fun K J0=>?_
 refine AW.c 1 U7 Tru ?_
 apply AW.x rfl
 apply AW.z
 apply J0
 have q_30:=Jk4 r.o (P.P 0)
 rw [<-hs] at q_30
 have q_31:=Jn7 s e1
 rw [<-hq] at q_31
 refine AW.c 4 U7 (ca4 q_30 (Jg7 s h) Jr4 (ca2 q_31 (Jg7 r.d q))) ?_
 refine AW.q fun K J0=>?_
 refine AW.c 1 U7 Jz2 ?_
 apply AW.y rfl
 refine AW.c 1 U7 Tru ?_
 exact AW.ret (hQ _ _ _ (RetP.z hwf Tru))
theorem Qz5 (r:RY)(P:PL)(near far:Int)(e1 e2 h s q:V)(D U W t1:Int)(m:Ja1)(hE:FacE r P e1 e2 h s q D U W t1)(hk:¬P.kind=0)(g0:(D ==0)=false)(g1:¬U<0)(g2:¬W<0)(g3:65536<Jd6 U W):Ctr Tryz.prog 201 [.agg (ryC r),.agg (plC P),.one (.int .i64 near),.one (.int .i64 far)] m (.tup [(true,htC ht0),(false,[.bool false])]) m:=by
 refine Ctr.en Tryz.func201 [.cell 8 183,.tmp 9] 100 fun hwf Q hQ=>?_
 obtain ⟨h1,h2,hh,hD,hs,hU,hq,hW,ht⟩:=hE
 have gx:=Jg4 P
 have hv:htC ht0=[.int .i64 0,.int .i64 0,.int .i64 0,.int .i64 0,.int .i64 0,.int .i64 0,.int .i64 0,.int .i64 0]:=rfl
 rw [hv] at hQ
 have q_32:=Jg3 (P.P 1) (P.P 0)
 rw [<-h1] at q_32
 have q_33:=Jg3 (P.P 2) (P.P 0)
 rw [<-h2] at q_33
 have q_34:=Ji9 r.d e2
 rw [<-hh] at q_34
 have U8:=ca4 gx @Jh4 @Jj3 (ca4 @Ja4 @Jm9 hD (ca4 hU hW ht (ca4 @decide_true @decide_false g0 (ca3 g1 g2 g3))))
 refine AW.c 5 U8 (ca4 q_32 q_33 q_34 (Je3 e1 h)) ?_
 refine AW.q fun K J0=>?_
 refine AW.c 1 U8 Tru ?_
 apply AW.x rfl
 apply AW.z
 apply J0
 have q_35:=Jg3 r.o (P.P 0)
 rw [<-hs] at q_35
 have q_36:=Ji9 s e1
 rw [<-hq] at q_36
 refine AW.c 4 U8 (ca4 q_35 (Je3 s h) Jh6 (ca2 q_36 (Je3 r.d q))) ?_
 refine AW.q fun K J0=>?_
 refine AW.c 1 U8 Jp6 ?_
 apply AW.y rfl
 refine AW.c 1 U8 Tru ?_
 exact AW.ret (hQ _ _ _ (RetP.z hwf Tru))
theorem Xu0 (r:RY)(P:PL)(near far:Int)(e1 e2 h s q:V)(D U W t1:Int)(m:Ja1)(hE:FacE r P e1 e2 h s q D U W t1)(hk:¬P.kind=0)(g0:(D ==0)=false)(g1:¬U<0)(g2:¬W<0)(g3:¬65536<Jd6 U W)(gm:¬Kb1 P r near far t1):Ctr Tryz.prog 196 [.agg (ryC r),.agg (plC P),.one (.int .i64 near),.one (.int .i64 far)] m (.tup [(true,htC ht0),(false,[.bool false])]) m:=by
 refine Ctr.en Tryz.func196 [.cell 8 165,.tmp 9] 101 fun hwf Q hQ=>?_
 obtain ⟨h1,h2,hh,hD,hs,hU,hq,hW,ht⟩:=hE
 have gx:=Jg4 P
 have hv:htC ht0=[.int .i64 0,.int .i64 0,.int .i64 0,.int .i64 0,.int .i64 0,.int .i64 0,.int .i64 0,.int .i64 0]:=rfl
 rw [hv] at hQ
 have U9:=ca4 gx @Jh4 @Jj3 (ca4 @Ja4 @Jm9 hD (ca4 hU hW ht (ca4 @decide_true @decide_false g0 (ca3 g1 g2 g3))))
 refine AW.c 1 U9 Tru ?_
 have q_37:=Jk4 (P.P 1) (P.P 0)
 rw [<-h1] at q_37
 have q_38:=Jk4 (P.P 2) (P.P 0)
 rw [<-h2] at q_38
 refine AW.d [.val,.val,.rd 0,.val,.val,.rd 0,.ext,.val,.val,.rd 0,.val,.val,.rd 0,.ext,.fl,.fl,.wr,.wr] fol U9 (ca2 q_37 q_38) ?_
 have q_39:=Jn7 r.d e2
 rw [<-hh] at q_39
 refine AW.c 2 U9 (ca2 q_39 (Jg7 e1 h)) ?_
 refine AW.q fun K J0=>?_
 refine AW.c 1 U9 Tru ?_
 apply AW.x rfl
 apply AW.z
 apply J0
 have q_40:=Jk4 r.o (P.P 0)
 rw [<-hs] at q_40
 have q_41:=Jn7 s e1
 rw [<-hq] at q_41
 refine AW.c 4 U9 (ca4 q_40 (Jg7 s h) Jr4 (ca2 q_41 (Jg7 r.d q))) ?_
 refine AW.q fun K J0=>?_
 refine AW.c 1 U9 Jz2 ?_
 apply AW.x rfl
 apply AW.z
 apply J0
 refine AW.d [.rd 0,.rd 0,.rd 0,.rd 0,.ext,.val,.ext,.val,.val,.ext,.val,.val,.val,.fl,.wr,.val] fol U9 (ca3 (Jg7 e2 q) Jr4 (Km7 P r t1 near far _ false ⟨fun h=>(by cases h),fun h=>absurd h gm⟩)) ?_
 refine AW.q fun K J0=>?_
 refine AW.c 1 U9 Tru ?_
 apply AW.y rfl
 refine AW.c 1 U9 Tru ?_
 exact AW.ret (hQ _ _ _ (RetP.z hwf Tru))
theorem Xd1 (r:RY)(P:PL)(near far:Int)(e1 e2 h s q:V)(D U W t1:Int)(m:Ja1)(hE:FacE r P e1 e2 h s q D U W t1)(hk:¬P.kind=0)(g0:(D ==0)=false)(g1:¬U<0)(g2:¬W<0)(g3:¬65536<Jd6 U W)(gm:¬Kb1 P r near far t1):Ctr Tryz.prog 201 [.agg (ryC r),.agg (plC P),.one (.int .i64 near),.one (.int .i64 far)] m (.tup [(true,htC ht0),(false,[.bool false])]) m:=by
 refine Ctr.en Tryz.func201 [.cell 8 183,.tmp 9] 100 fun hwf Q hQ=>?_
 obtain ⟨h1,h2,hh,hD,hs,hU,hq,hW,ht⟩:=hE
 have gx:=Jg4 P
 have hv:htC ht0=[.int .i64 0,.int .i64 0,.int .i64 0,.int .i64 0,.int .i64 0,.int .i64 0,.int .i64 0,.int .i64 0]:=rfl
 rw [hv] at hQ
 have q_42:=Jg3 (P.P 1) (P.P 0)
 rw [<-h1] at q_42
 have q_43:=Jg3 (P.P 2) (P.P 0)
 rw [<-h2] at q_43
 have q_44:=Ji9 r.d e2
 rw [<-hh] at q_44
 have U10:=ca4 gx @Jh4 @Jj3 (ca4 @Ja4 @Jm9 hD (ca4 hU hW ht (ca4 @decide_true @decide_false g0 (ca3 g1 g2 g3))))
 refine AW.c 5 U10 (ca4 q_42 q_43 q_44 (Je3 e1 h)) ?_
 refine AW.q fun K J0=>?_
 refine AW.c 1 U10 Tru ?_
 apply AW.x rfl
 apply AW.z
 apply J0
 have q_45:=Jg3 r.o (P.P 0)
 rw [<-hs] at q_45
 have q_46:=Ji9 s e1
 rw [<-hq] at q_46
 refine AW.c 4 U10 (ca4 q_45 (Je3 s h) Jh6 (ca2 q_46 (Je3 r.d q))) ?_
 refine AW.q fun K J0=>?_
 refine AW.c 1 U10 Jp6 ?_
 apply AW.x rfl
 apply AW.z
 apply J0
 refine AW.c 1 U10 (ca2 (Je3 e2 q) Jh6) ?_
 refine AW.q fun K J0=>?_
 refine AW.c 1 U10 (Kk6 P r t1 near far _ false ⟨fun h=>(by cases h),fun h=>absurd h gm⟩) ?_
 apply AW.y rfl
 refine AW.c 1 U10 Tru ?_
 exact AW.ret (hQ _ _ _ (RetP.z hwf Tru))
theorem Xt9 (r:RY)(P:PL)(near far:Int)(e1 e2 h s q:V)(D U W t1:Int)(m:Ja1)(hE:FacE r P e1 e2 h s q D U W t1)(hk:¬P.kind=0)(g0:(D ==0)=false)(g1:¬U<0)(g2:¬W<0)(g3:¬65536<Jd6 U W)(gm:Kb1 P r near far t1):Ctr Tryz.prog 196 [.agg (ryC r),.agg (plC P),.one (.int .i64 near),.one (.int .i64 far)] m (.tup [(true,htC (htV r P t1)),(false,[.bool true])]) m:=by
 refine Ctr.en Tryz.func196 [.cell 8 165,.tmp 9] 101 fun hwf Q hQ=>?_
 obtain ⟨h1,h2,hh,hD,hs,hU,hq,hW,ht⟩:=hE
 have gx:=Jg4 P
 have hn:Jj8 r P t1=Kn9 r.d (Jb8 (Jd4 e1 e2)):=by unfold Jj8;rw [if_neg hk,h1,h2]
 have hv:htC (htV r P t1)=.int .i64 t1::.int .i64 0::(c3C (Je4 r t1)++c3C (Kn9 r.d (Jb8 (Jd4 e1 e2)))):=by unfold htV htC;rw [hn]
 rw [hv] at hQ
 have U11:=ca4 gx @Jh4 @Jj3 (ca4 @Ja4 @Jm9 hD (ca4 hU hW ht (ca4 @decide_true @decide_false g0 (ca3 g1 g2 g3))))
 refine AW.c 1 U11 Tru ?_
 have q_47:=Jk4 (P.P 1) (P.P 0)
 rw [<-h1] at q_47
 have q_48:=Jk4 (P.P 2) (P.P 0)
 rw [<-h2] at q_48
 refine AW.d [.val,.val,.rd 0,.val,.val,.rd 0,.ext,.val,.val,.rd 0,.val,.val,.rd 0,.ext,.fl,.fl,.wr,.wr] fol U11 (ca2 q_47 q_48) ?_
 have q_49:=Jn7 r.d e2
 rw [<-hh] at q_49
 refine AW.c 2 U11 (ca2 q_49 (Jg7 e1 h)) ?_
 refine AW.q fun K J0=>?_
 refine AW.c 1 U11 Tru ?_
 apply AW.x rfl
 apply AW.z
 apply J0
 have q_50:=Jk4 r.o (P.P 0)
 rw [<-hs] at q_50
 have q_51:=Jn7 s e1
 rw [<-hq] at q_51
 refine AW.c 4 U11 (ca4 q_50 (Jg7 s h) Jr4 (ca2 q_51 (Jg7 r.d q))) ?_
 refine AW.q fun K J0=>?_
 refine AW.c 1 U11 Jz2 ?_
 apply AW.x rfl
 apply AW.z
 apply J0
 refine AW.d [.rd 0,.rd 0,.rd 0,.rd 0,.ext,.val,.ext,.val,.val,.ext,.val,.val,.val,.fl,.wr,.val] fol U11 (ca3 (Jg7 e2 q) Jr4 (Km7 P r t1 near far _ true ⟨fun _=>gm,fun _=>rfl⟩)) ?_
 refine AW.q fun K J0=>?_
 refine AW.c 1 U11 Tru ?_
 apply AW.x rfl
 apply AW.z
 apply J0
 refine AW.d [.rd 0,.rd 0,.rd 0,.ext,.ext,.ext,.val,.wr] fol U11 (ca3 (Jn7 e1 e2) (Jr5 (Jd4 e1 e2)) (Kw4 r (Jb8 (Jd4 e1 e2)))) ?_
 refine AW.c 1 U11 Tru ?_
 exact AW.ret (hQ _ _ _ (RetP.z hwf Tru))
theorem Xd0 (r:RY)(P:PL)(near far:Int)(e1 e2 h s q:V)(D U W t1:Int)(m:Ja1)(hE:FacE r P e1 e2 h s q D U W t1)(hk:¬P.kind=0)(g0:(D ==0)=false)(g1:¬U<0)(g2:¬W<0)(g3:¬65536<Jd6 U W)(gm:Kb1 P r near far t1):Ctr Tryz.prog 201 [.agg (ryC r),.agg (plC P),.one (.int .i64 near),.one (.int .i64 far)] m (.tup [(true,htC (htV r P t1)),(false,[.bool true])]) m:=by
 refine Ctr.en Tryz.func201 [.cell 8 183,.tmp 9] 100 fun hwf Q hQ=>?_
 obtain ⟨h1,h2,hh,hD,hs,hU,hq,hW,ht⟩:=hE
 have gx:=Jg4 P
 have hn:Jj8 r P t1=Kn9 r.d (Jb8 (Jd4 e1 e2)):=by unfold Jj8;rw [if_neg hk,h1,h2]
 have hv:htC (htV r P t1)=.int .i64 t1::.int .i64 0::(c3C (Je4 r t1)++c3C (Kn9 r.d (Jb8 (Jd4 e1 e2)))):=by unfold htV htC;rw [hn]
 rw [hv] at hQ
 have q_52:=Jg3 (P.P 1) (P.P 0)
 rw [<-h1] at q_52
 have q_53:=Jg3 (P.P 2) (P.P 0)
 rw [<-h2] at q_53
 have q_54:=Ji9 r.d e2
 rw [<-hh] at q_54
 have U12:=ca4 gx @Jh4 @Jj3 (ca4 @Ja4 @Jm9 hD (ca4 hU hW ht (ca4 @decide_true @decide_false g0 (ca3 g1 g2 g3))))
 refine AW.c 5 U12 (ca4 q_52 q_53 q_54 (Je3 e1 h)) ?_
 refine AW.q fun K J0=>?_
 refine AW.c 1 U12 Tru ?_
 apply AW.x rfl
 apply AW.z
 apply J0
 have q_55:=Jg3 r.o (P.P 0)
 rw [<-hs] at q_55
 have q_56:=Ji9 s e1
 rw [<-hq] at q_56
 refine AW.c 4 U12 (ca4 q_55 (Je3 s h) Jh6 (ca2 q_56 (Je3 r.d q))) ?_
 refine AW.q fun K J0=>?_
 refine AW.c 1 U12 Jp6 ?_
 apply AW.x rfl
 apply AW.z
 apply J0
 refine AW.c 1 U12 (ca2 (Je3 e2 q) Jh6) ?_
 refine AW.q fun K J0=>?_
 refine AW.c 1 U12 (Kk6 P r t1 near far _ true ⟨fun _=>gm,fun _=>rfl⟩) ?_
 apply AW.x rfl
 apply AW.z
 apply J0
 refine AW.d [.val,.rd 0,.val,.ext,.rd 0,.rd 0,.rd 0,.ext,.ext,.ext,.val,.wr,.val] fol U12 (ca4 (Ku2 r t1) (Ji9 e1 e2) (Jn1 (Jd4 e1 e2)) (Kk7 r (Jb8 (Jd4 e1 e2)))) ?_
 exact AW.ret (hQ _ _ _ (RetP.z hwf Tru))
open Classical in
noncomputable def Jw5 (r:RY)(P:PL):List Int :=
  if P.kind=0 then
    if Jf8 (Je0 (Je9 (Jb4 r.o (P.P 0)) r.d) (Je9 (Jb4 r.o (P.P 0)) r.d)) (Je0 (Je9 r.d r.d) (Jf8 (Je9 (Jb4 r.o (P.P 0)) (Jb4 r.o (P.P 0))) (Je0 P.r P.r)))<0\/Je9 r.d r.d=0 then [] else
      [Jh2 (Jf8 (-Ja3 (Je9 (Jb4 r.o (P.P 0)) r.d)) (Jo0 (Jf8 (Je0 (Je9 (Jb4 r.o (P.P 0)) r.d) (Je9 (Jb4 r.o (P.P 0)) r.d)) (Je0 (Je9 r.d r.d) (Jf8 (Je9 (Jb4 r.o (P.P 0)) (Jb4 r.o (P.P 0))) (Je0 P.r P.r)))))) (Je9 r.d r.d),
       Jh2 (Jf8 (Jo0 (Jf8 (Je0 (Je9 (Jb4 r.o (P.P 0)) r.d) (Je9 (Jb4 r.o (P.P 0)) r.d)) (Je0 (Je9 r.d r.d) (Jf8 (Je9 (Jb4 r.o (P.P 0)) (Jb4 r.o (P.P 0))) (Je0 P.r P.r))))) (Je9 (Jb4 r.o (P.P 0)) r.d)) (Je9 r.d r.d)]
  else
    if Je9 (Jb4 (P.P 1) (P.P 0)) (Jd4 r.d (Jb4 (P.P 2) (P.P 0)))=0 \/
       Jh2 (Je9 (Jb4 r.o (P.P 0)) (Jd4 r.d (Jb4 (P.P 2) (P.P 0)))) (Je9 (Jb4 (P.P 1) (P.P 0)) (Jd4 r.d (Jb4 (P.P 2) (P.P 0))))<0 \/
       Jh2 (Je9 r.d (Jd4 (Jb4 r.o (P.P 0)) (Jb4 (P.P 1) (P.P 0)))) (Je9 (Jb4 (P.P 1) (P.P 0)) (Jd4 r.d (Jb4 (P.P 2) (P.P 0))))<0 \/
       65536<Jd6 (Jh2 (Je9 (Jb4 r.o (P.P 0)) (Jd4 r.d (Jb4 (P.P 2) (P.P 0)))) (Je9 (Jb4 (P.P 1) (P.P 0)) (Jd4 r.d (Jb4 (P.P 2) (P.P 0))))) (Jh2 (Je9 r.d (Jd4 (Jb4 r.o (P.P 0)) (Jb4 (P.P 1) (P.P 0)))) (Je9 (Jb4 (P.P 1) (P.P 0)) (Jd4 r.d (Jb4 (P.P 2) (P.P 0))))) then [] else
      [Jh2 (Je9 (Jb4 (P.P 2) (P.P 0)) (Jd4 (Jb4 r.o (P.P 0)) (Jb4 (P.P 1) (P.P 0)))) (Je9 (Jb4 (P.P 1) (P.P 0)) (Jd4 r.d (Jb4 (P.P 2) (P.P 0))))]
open Classical in
noncomputable def Jr9 (r:RY)(P:PL)(near far:Int):Option Int:=Xh6 (Jw5 r P) (fun t=>decide (Ka5 (Jc7 P) (Je4 r t))) near far
noncomputable def Ju9 (r:RY)(P:PL):Option Int->HT × Bool
 | none=>(ht0,false)
 | some t=>(htV r P t,true)
open Classical in
theorem Ka1 (r:RY)(P:PL)(near far t:Int):okT (fun t=>decide (Ka5 (Jc7 P) (Je4 r t))) near far t=true↔Kb1 P r near far t:=by
 unfold okT Kb1;simp [and_assoc]
theorem Jm0 {r:RY}{P:PL}{near far:Int}(h:Jw5 r P=[]):Jr9 r P near far=none:=by unfold Jr9;rw [h];rfl
theorem Qm3 {r:RY}{P:PL}{near far t:Int}(h:Jw5 r P=[t]):(Kb1 P r near far t->Jr9 r P near far=some t)/\(¬Kb1 P r near far t->Jr9 r P near far=none):=by
 unfold Jr9 Xh6;rw [h]
 refine ⟨fun g=>?_,fun g=>?_⟩
 ·rw [List.find?_cons_of_pos ((Ka1 r P near far t).2 g)]
 rw [List.find?_cons_of_neg (fun q=>g ((Ka1 r P near far t).1 q))];rfl
theorem Qm2 {r:RY}{P:PL}{near far t u:Int}(h:Jw5 r P=[t,u]):(Kb1 P r near far t->Jr9 r P near far=some t)/\(¬Kb1 P r near far t->Kb1 P r near far u->Jr9 r P near far=some u)/\(¬Kb1 P r near far t->¬Kb1 P r near far u->Jr9 r P near far=none):=by
 unfold Jr9 Xh6;rw [h]
 refine ⟨fun g=>?_,fun g g2=>?_,fun g g2=>?_⟩
 ·rw [List.find?_cons_of_pos ((Ka1 r P near far t).2 g)]
 ·rw [List.find?_cons_of_neg (fun q=>g ((Ka1 r P near far t).1 q)),List.find?_cons_of_pos ((Ka1 r P near far u).2 g2)]
 rw [List.find?_cons_of_neg (fun q=>g ((Ka1 r P near far t).1 q)),List.find?_cons_of_neg (fun q=>g2 ((Ka1 r P near far u).1 q))];rfl
theorem Xx4 (r:RY)(P:PL)(near far:Int)(m:Ja1)(hk:P.kind=0):Ctr Tryz.prog 195 [.agg (ryC r),.agg (plC P),.one (.int .i64 near),.one (.int .i64 far)] m (.tup [(true,htC (Ju9 r P (Jr9 r P near far)).1),(false,[.bool (Ju9 r P (Jr9 r P near far)).2])]) m:=by
 obtain ⟨A,hA⟩:∃ A,Je9 r.d r.d=A:=⟨_,rfl⟩
 obtain ⟨B,hB⟩:∃ B,Je9 (Jb4 r.o (P.P 0)) r.d=B:=⟨_,rfl⟩
 obtain ⟨C,hC⟩:∃ C,Jf8 (Je9 (Jb4 r.o (P.P 0)) (Jb4 r.o (P.P 0))) (Je0 P.r P.r)=C:=⟨_,rfl⟩
 obtain ⟨D,hD⟩:∃ D,Jf8 (Je0 B B) (Je0 A C)=D:=⟨_,rfl⟩
 obtain ⟨R,hR⟩:∃ R,Jo0 D=R:=⟨_,rfl⟩
 obtain ⟨t1,h1⟩:∃ t,Jh2 (Jf8 (-Ja3 B) R) A=t:=⟨_,rfl⟩
 obtain ⟨t2,h2⟩:∃ t,Jh2 (Jf8 R B) A=t:=⟨_,rfl⟩
 have hE:BalE r P A B C D R t1 t2:=⟨hA,hB,hC,hD,hR,h1,h2⟩
 have hc:Jw5 r P=if D<0\/A=0 then [] else [t1,t2]:=by
  unfold Jw5;rw [if_pos hk,hA,hB,hC,hD,hR,h1,h2]
 by_cases g:D<0
 ·rw [Jm0 (by rw [hc,if_pos (.inl g)])];exact Vt8 r P near far A B C D R t1 t2 m hE hk g
 by_cases ga:A=0
 ·rw [Jm0 (by rw [hc,if_pos (.inr ga)])];exact Vt7 r P near far A B C D R t1 t2 m hE hk g (by rw [ga];rfl)
 have gb:(A ==0)=false:=by simpa using ga
 have hc2:Jw5 r P=[t1,t2]:=by rw [hc,if_neg (fun h=>h.elim g ga)]
 obtain ⟨k1,k2,k3⟩:=Qm2 (near:=near) (far:=far) hc2
 by_cases g1:Kb1 P r near far t1
 ·rw [k1 g1];exact Xk7 r P near far A B C D R t1 t2 m hE hk g gb g1
 by_cases g2:Kb1 P r near far t2
 ·rw [k2 g1 g2];exact Xk6 r P near far A B C D R t1 t2 m hE hk g gb g1 g2
 rw [k3 g1 g2];exact Xx3 r P near far A B C D R t1 t2 m hE hk g gb g1 g2
theorem Xu1 (r:RY)(P:PL)(near far:Int)(m:Ja1)(hk:¬P.kind=0):Ctr Tryz.prog 196 [.agg (ryC r),.agg (plC P),.one (.int .i64 near),.one (.int .i64 far)] m (.tup [(true,htC (Ju9 r P (Jr9 r P near far)).1),(false,[.bool (Ju9 r P (Jr9 r P near far)).2])]) m:=by
 obtain ⟨e1,h1⟩:∃ e,e=Jb4 (P.P 1) (P.P 0):=⟨_,rfl⟩
 obtain ⟨e2,h2⟩:∃ e,e=Jb4 (P.P 2) (P.P 0):=⟨_,rfl⟩
 obtain ⟨h,hh⟩:∃ h,h=Jd4 r.d e2:=⟨_,rfl⟩
 obtain ⟨D,hD⟩:∃ D,Je9 e1 h=D:=⟨_,rfl⟩
 obtain ⟨s,hs⟩:∃ s,s=Jb4 r.o (P.P 0):=⟨_,rfl⟩
 obtain ⟨U,hU⟩:∃ U,Jh2 (Je9 s h) D=U:=⟨_,rfl⟩
 obtain ⟨q,hq⟩:∃ q,q=Jd4 s e1:=⟨_,rfl⟩
 obtain ⟨W,hW⟩:∃ W,Jh2 (Je9 r.d q) D=W:=⟨_,rfl⟩
 obtain ⟨t1,ht⟩:∃ t,Jh2 (Je9 e2 q) D=t:=⟨_,rfl⟩
 have hE:FacE r P e1 e2 h s q D U W t1:=⟨h1,h2,hh,hD,hs,hU,hq,hW,ht⟩
 have hc:Jw5 r P=if D=0\/U<0\/W<0\/65536<Jd6 U W then [] else [t1]:=by
  unfold Jw5;rw [if_neg hk,<-h1,<-h2,<-hh,<-hs,<-hq,hD,hU,hW,ht]
 by_cases g0:D=0
 ·rw [Jm0 (by rw [hc,if_pos (.inl g0)])];exact Vr8 r P near far e1 e2 h s q D U W t1 m hE hk (by rw [g0];rfl)
 have gb:(D ==0)=false:=by simpa using g0
 by_cases g1:U<0
 ·rw [Jm0 (by rw [hc,if_pos (.inr (.inl g1))])];exact Vr7 r P near far e1 e2 h s q D U W t1 m hE hk gb g1
 by_cases g2:W<0
 ·rw [Jm0 (by rw [hc,if_pos (.inr (.inr (.inl g2)))])];exact Vr6 r P near far e1 e2 h s q D U W t1 m hE hk gb g1 g2
 by_cases g3:65536<Jd6 U W
 ·rw [Jm0 (by rw [hc,if_pos (.inr (.inr (.inr g3)))])];exact Vr5 r P near far e1 e2 h s q D U W t1 m hE hk gb g1 g2 g3
 have hc2:Jw5 r P=[t1]:=by rw [hc,if_neg (fun h=>h.elim g0 fun h=>h.elim g1 fun h=>h.elim g2 g3)]
 obtain ⟨k1,k2⟩:=Qm3 (near:=near) (far:=far) hc2
 by_cases gm:Kb1 P r near far t1
 ·rw [k1 gm];exact Xt9 r P near far e1 e2 h s q D U W t1 m hE hk gb g1 g2 g3 gm
 rw [k2 gm];exact Xu0 r P near far e1 e2 h s q D U W t1 m hE hk gb g1 g2 g3 gm
theorem Xe8 (r:RY)(P:PL)(near far:Int)(m:Ja1)(hk:P.kind=0):Ctr Tryz.prog 200 [.agg (ryC r),.agg (plC P),.one (.int .i64 near),.one (.int .i64 far)] m (.tup [(true,htC (Ju9 r P (Jr9 r P near far)).1),(false,[.bool (Ju9 r P (Jr9 r P near far)).2])]) m:=by
 obtain ⟨A,hA⟩:∃ A,Je9 r.d r.d=A:=⟨_,rfl⟩
 obtain ⟨B,hB⟩:∃ B,Je9 (Jb4 r.o (P.P 0)) r.d=B:=⟨_,rfl⟩
 obtain ⟨C,hC⟩:∃ C,Jf8 (Je9 (Jb4 r.o (P.P 0)) (Jb4 r.o (P.P 0))) (Je0 P.r P.r)=C:=⟨_,rfl⟩
 obtain ⟨D,hD⟩:∃ D,Jf8 (Je0 B B) (Je0 A C)=D:=⟨_,rfl⟩
 obtain ⟨R,hR⟩:∃ R,Jo0 D=R:=⟨_,rfl⟩
 obtain ⟨t1,h1⟩:∃ t,Jh2 (Jf8 (-Ja3 B) R) A=t:=⟨_,rfl⟩
 obtain ⟨t2,h2⟩:∃ t,Jh2 (Jf8 R B) A=t:=⟨_,rfl⟩
 have hE:BalE r P A B C D R t1 t2:=⟨hA,hB,hC,hD,hR,h1,h2⟩
 have hc:Jw5 r P=if D<0\/A=0 then [] else [t1,t2]:=by
  unfold Jw5;rw [if_pos hk,hA,hB,hC,hD,hR,h1,h2]
 by_cases g:D<0
 ·rw [Jm0 (by rw [hc,if_pos (.inl g)])];exact Va4 r P near far A B C D R t1 t2 m hE hk g
 by_cases ga:A=0
 ·rw [Jm0 (by rw [hc,if_pos (.inr ga)])];exact Va3 r P near far A B C D R t1 t2 m hE hk g (by rw [ga];rfl)
 have gb:(A ==0)=false:=by simpa using ga
 have hc2:Jw5 r P=[t1,t2]:=by rw [hc,if_neg (fun h=>h.elim g ga)]
 obtain ⟨k1,k2,k3⟩:=Qm2 (near:=near) (far:=far) hc2
 by_cases g1:Kb1 P r near far t1
 ·rw [k1 g1];exact Vn7 r P near far A B C D R t1 t2 m hE hk g gb g1
 by_cases g2:Kb1 P r near far t2
 ·rw [k2 g1 g2];exact Vn6 r P near far A B C D R t1 t2 m hE hk g gb g1 g2
 rw [k3 g1 g2];exact Xe7 r P near far A B C D R t1 t2 m hE hk g gb g1 g2
theorem Xd2 (r:RY)(P:PL)(near far:Int)(m:Ja1)(hk:¬P.kind=0):Ctr Tryz.prog 201 [.agg (ryC r),.agg (plC P),.one (.int .i64 near),.one (.int .i64 far)] m (.tup [(true,htC (Ju9 r P (Jr9 r P near far)).1),(false,[.bool (Ju9 r P (Jr9 r P near far)).2])]) m:=by
 obtain ⟨e1,h1⟩:∃ e,e=Jb4 (P.P 1) (P.P 0):=⟨_,rfl⟩
 obtain ⟨e2,h2⟩:∃ e,e=Jb4 (P.P 2) (P.P 0):=⟨_,rfl⟩
 obtain ⟨h,hh⟩:∃ h,h=Jd4 r.d e2:=⟨_,rfl⟩
 obtain ⟨D,hD⟩:∃ D,Je9 e1 h=D:=⟨_,rfl⟩
 obtain ⟨s,hs⟩:∃ s,s=Jb4 r.o (P.P 0):=⟨_,rfl⟩
 obtain ⟨U,hU⟩:∃ U,Jh2 (Je9 s h) D=U:=⟨_,rfl⟩
 obtain ⟨q,hq⟩:∃ q,q=Jd4 s e1:=⟨_,rfl⟩
 obtain ⟨W,hW⟩:∃ W,Jh2 (Je9 r.d q) D=W:=⟨_,rfl⟩
 obtain ⟨t1,ht⟩:∃ t,Jh2 (Je9 e2 q) D=t:=⟨_,rfl⟩
 have hE:FacE r P e1 e2 h s q D U W t1:=⟨h1,h2,hh,hD,hs,hU,hq,hW,ht⟩
 have hc:Jw5 r P=if D=0\/U<0\/W<0\/65536<Jd6 U W then [] else [t1]:=by
  unfold Jw5;rw [if_neg hk,<-h1,<-h2,<-hh,<-hs,<-hq,hD,hU,hW,ht]
 by_cases g0:D=0
 ·rw [Jm0 (by rw [hc,if_pos (.inl g0)])];exact Qz8 r P near far e1 e2 h s q D U W t1 m hE hk (by rw [g0];rfl)
 have gb:(D ==0)=false:=by simpa using g0
 by_cases g1:U<0
 ·rw [Jm0 (by rw [hc,if_pos (.inr (.inl g1))])];exact Qz7 r P near far e1 e2 h s q D U W t1 m hE hk gb g1
 by_cases g2:W<0
 ·rw [Jm0 (by rw [hc,if_pos (.inr (.inr (.inl g2)))])];exact Qz6 r P near far e1 e2 h s q D U W t1 m hE hk gb g1 g2
 by_cases g3:65536<Jd6 U W
 ·rw [Jm0 (by rw [hc,if_pos (.inr (.inr (.inr g3)))])];exact Qz5 r P near far e1 e2 h s q D U W t1 m hE hk gb g1 g2 g3
 have hc2:Jw5 r P=[t1]:=by rw [hc,if_neg (fun h=>h.elim g0 fun h=>h.elim g1 fun h=>h.elim g2 g3)]
 obtain ⟨k1,k2⟩:=Qm3 (near:=near) (far:=far) hc2
 by_cases gm:Kb1 P r near far t1
 ·rw [k1 gm];exact Xd0 r P near far e1 e2 h s q D U W t1 m hE hk gb g1 g2 g3 gm
 rw [k2 gm];exact Xd1 r P near far e1 e2 h s q D U W t1 m hE hk gb g1 g2 g3 gm
theorem Xo2 (r:RY)(M:MV)(near far:Int)(m:Ja1)(hk:M.A.kind=0):Ctr Tryz.prog 127 [.agg (ryC r),.agg (mvC M),.one (.int .i64 near),.one (.int .i64 far)] m (.tup [(true,htC (Ju9 r (atM M r.part) (Jr9 r (atM M r.part) near far)).1),(false,[.bool (Ju9 r (atM M r.part) (Jr9 r (atM M r.part) near far)).2])]) m:=by
 refine Ctr.en Tryz.func127 [.cell 8 165,.tmp 9] 32 fun hwf Q hQ=>?_
 obtain ⟨P,hP⟩:∃ P,P=atM M r.part:=⟨_,rfl⟩
 have hPk:P.kind=M.A.kind:=by rw [hP];rfl
 rw [<-hP] at hQ
 have gx:=Jg4 P
 have hkb:(P.kind ==0)=true:=by rw [hPk];exact beq_iff_eq.2 hk
 obtain ⟨o,ho⟩:∃ o,o=Jr9 r P near far:=⟨_,rfl⟩
 have q_1:=at_c M r.part
 rw [<-hP] at q_1
 have U1:=ca4 gx @Kq4 @Jq4 (ca4 @Jh4 @Jj3 @Ja4 hkb)
 refine AW.c 2 U1 q_1 ?_
 refine AW.q fun K J0=>?_
 refine AW.c 1 U1 Tru ?_
 apply AW.y rfl
 refine AW.sr 1 fun K J1=>?_
 simp only [push_cast,simprocAttr,U1]
 refine CThen.by (Xx4 r P near far _ (by rw [hPk];exact hk)) ?_
 simp only [push_cast,simprocAttr,U1]
 apply J1
 exact AW.ret (hQ _ _ _ (RetP.z hwf Tru))
theorem Xo3 (r:RY)(M:MV)(near far:Int)(m:Ja1)(hk:¬M.A.kind=0):Ctr Tryz.prog 127 [.agg (ryC r),.agg (mvC M),.one (.int .i64 near),.one (.int .i64 far)] m (.tup [(true,htC (Ju9 r (atM M r.part) (Jr9 r (atM M r.part) near far)).1),(false,[.bool (Ju9 r (atM M r.part) (Jr9 r (atM M r.part) near far)).2])]) m:=by
 refine Ctr.en Tryz.func127 [.cell 8 165,.tmp 9] 32 fun hwf Q hQ=>?_
 obtain ⟨P,hP⟩:∃ P,P=atM M r.part:=⟨_,rfl⟩
 have hPk:P.kind=M.A.kind:=by rw [hP];rfl
 rw [<-hP] at hQ
 have gx:=Jg4 P
 have hkb:(P.kind ==0)=false:=by rw [hPk];simpa using hk
 obtain ⟨o,ho⟩:∃ o,o=Jr9 r P near far:=⟨_,rfl⟩
 have q_2:=at_c M r.part
 rw [<-hP] at q_2
 have U2:=ca4 gx @Kq4 @Jq4 (ca4 @Jh4 @Jj3 @Ja4 hkb)
 refine AW.c 2 U2 q_2 ?_
 refine AW.q fun K J0=>?_
 refine AW.c 1 U2 Tru ?_
 apply AW.x rfl
 apply AW.z
 apply J0
 refine AW.sr 1 fun K J0=>?_
 simp only [push_cast,simprocAttr,U2]
 refine CThen.by (Xu1 r P near far _ (by rw [hPk];exact hk)) ?_
 simp only [push_cast,simprocAttr,U2]
 apply J0
 exact AW.ret (hQ _ _ _ (RetP.z hwf Tru))
theorem Kq9 (r:RY)(M:MV)(near far:Int)(m:Ja1):Ctr Tryz.prog 127 [.agg (ryC r),.agg (mvC M),.one (.int .i64 near),.one (.int .i64 far)] m (.tup [(true,htC (Ju9 r (atM M r.part) (Jr9 r (atM M r.part) near far)).1),(false,[.bool (Ju9 r (atM M r.part) (Jr9 r (atM M r.part) near far)).2])]) m:=by
 by_cases hk:M.A.kind=0
 ·exact Xo2 r M near far m hk
 exact Xo3 r M near far m hk
theorem Xa7 (r:RY)(M:MV)(near far:Int)(m:Ja1)(hk:M.A.kind=0):Ctr Tryz.prog 148 [.agg (ryC r),.agg (mvC M),.one (.int .i64 near),.one (.int .i64 far)] m (.tup [(true,htC (Ju9 r (atM M r.part) (Jr9 r (atM M r.part) near far)).1),(false,[.bool (Ju9 r (atM M r.part) (Jr9 r (atM M r.part) near far)).2])]) m:=by
 refine Ctr.en Tryz.func148 [.cell 8 183,.tmp 9] 32 fun hwf Q hQ=>?_
 obtain ⟨P,hP⟩:∃ P,P=atM M r.part:=⟨_,rfl⟩
 have hPk:P.kind=M.A.kind:=by rw [hP];rfl
 rw [<-hP] at hQ
 have gx:=Jg4 P
 have hkb:(P.kind ==0)=true:=by rw [hPk];exact beq_iff_eq.2 hk
 obtain ⟨o,ho⟩:∃ o,o=Jr9 r P near far:=⟨_,rfl⟩
 have q_3:=Qj5 M r.part
 rw [<-hP] at q_3
 have U3:=ca4 gx @Kq4 @Jq4 (ca4 @Jh4 @Jj3 @Ja4 hkb)
 refine AW.c 2 U3 q_3 ?_
 refine AW.q fun K J0=>?_
 refine AW.c 1 U3 Tru ?_
 apply AW.y rfl
 refine AW.sr 1 fun K J1=>?_
 simp only [push_cast,simprocAttr,U3]
 refine CThen.by (Xe8 r P near far _ (by rw [hPk];exact hk)) ?_
 simp only [push_cast,simprocAttr,U3]
 apply J1
 exact AW.ret (hQ _ _ _ (RetP.z hwf Tru))
theorem Xa8 (r:RY)(M:MV)(near far:Int)(m:Ja1)(hk:¬M.A.kind=0):Ctr Tryz.prog 148 [.agg (ryC r),.agg (mvC M),.one (.int .i64 near),.one (.int .i64 far)] m (.tup [(true,htC (Ju9 r (atM M r.part) (Jr9 r (atM M r.part) near far)).1),(false,[.bool (Ju9 r (atM M r.part) (Jr9 r (atM M r.part) near far)).2])]) m:=by
 refine Ctr.en Tryz.func148 [.cell 8 183,.tmp 9] 32 fun hwf Q hQ=>?_
 obtain ⟨P,hP⟩:∃ P,P=atM M r.part:=⟨_,rfl⟩
 have hPk:P.kind=M.A.kind:=by rw [hP];rfl
 rw [<-hP] at hQ
 have gx:=Jg4 P
 have hkb:(P.kind ==0)=false:=by rw [hPk];simpa using hk
 obtain ⟨o,ho⟩:∃ o,o=Jr9 r P near far:=⟨_,rfl⟩
 have q_4:=Qj5 M r.part
 rw [<-hP] at q_4
 have U4:=ca4 gx @Kq4 @Jq4 (ca4 @Jh4 @Jj3 @Ja4 hkb)
 refine AW.c 2 U4 q_4 ?_
 refine AW.q fun K J0=>?_
 refine AW.c 1 U4 Tru ?_
 apply AW.x rfl
 apply AW.z
 apply J0
 refine AW.sr 1 fun K J0=>?_
 simp only [push_cast,simprocAttr,U4]
 refine CThen.by (Xd2 r P near far _ (by rw [hPk];exact hk)) ?_
 simp only [push_cast,simprocAttr,U4]
 apply J0
 exact AW.ret (hQ _ _ _ (RetP.z hwf Tru))
theorem Ku0 (r:RY)(M:MV)(near far:Int)(m:Ja1):Ctr Tryz.prog 148 [.agg (ryC r),.agg (mvC M),.one (.int .i64 near),.one (.int .i64 far)] m (.tup [(true,htC (Ju9 r (atM M r.part) (Jr9 r (atM M r.part) near far)).1),(false,[.bool (Ju9 r (atM M r.part) (Jr9 r (atM M r.part) near far)).2])]) m:=by
 by_cases hk:M.A.kind=0
 ·exact Xa7 r M near far m hk
 exact Xa8 r M near far m hk
noncomputable def Hq (r:RY)(mv:Nat->MV)(near far:Int)(i:Nat):Option Int:=Jr9 r (atM (mv i) r.part) near far
noncomputable def Jf1 (r:RY)(mv:Nat->MV):Option (Int × Nat)->HT
 | none=>ht0
 | some (t,i)=>⟨t,(i:Int),Je4 r t,Jj8 r (atM (mv i) r.part) t⟩
theorem Kj4 {H:Nat->Option Int}:∀ {n:Nat} {u:Int} {j:Nat},Jh1 H n=some (u,j)->j<n
 | 0,_,_,h=>by cases h
 | n+1,u,j,h=>by
  have h':Kx1 (Jh1 H n) n (H n)=some (u,j):=h
  unfold Kx1 at h'
  split at h'
  ·have:=Kj4 h';omega
  ·injection h' with h';injection h' with _ h';omega
  rename_i t u' j' hs
  split at h'
  ·injection h' with h';injection h' with _ h';omega
  have:=Kj4 (h'.symm ▸ hs:Jh1 H n=some (u,j));omega
theorem Qp4 (H:Nat->Option Int)(i:Nat):(H i=none/\Jh1 H (i+1)=Jh1 H i)\/(∃ t,H i=some t/\Jh1 H i=none/\Jh1 H (i+1)=some (t,i)) \/
  (∃ t u j,H i=some t/\Jh1 H i=some (u,j)/\t<u/\Jh1 H (i+1)=some (t,i))\/(∃ t u j,H i=some t/\Jh1 H i=some (u,j)/\¬t<u/\Jh1 H (i+1)=Jh1 H i):=by
 have h:Jh1 H (i+1)=Kx1 (Jh1 H i) i (H i):=rfl
 cases hi:H i with
 | none=>exact .inl ⟨rfl,by rw [h,hi];rfl⟩
 | some t =>
  cases hs:Jh1 H i with
  | none=>exact .inr (.inl ⟨t,rfl,rfl,by rw [h,hi,hs];rfl⟩)
  | some p =>
   obtain ⟨u,j⟩:=p
   have hj:=Kj4 hs
   by_cases g:t<u
   ·exact .inr (.inr (.inl ⟨t,u,j,rfl,rfl,g,by rw [h,hi,hs];exact if_pos (.inl g)⟩))
   exact .inr (.inr (.inr ⟨t,u,j,rfl,rfl,g,by rw [h,hi,hs];exact if_neg (fun q=>q.elim g fun q=>by omega)⟩))
theorem Kk3 (r:RY)(mv:Nat->MV)(rb rv n:Nat)(near far:Int)(m:Ja1)(hb:∃ k ez,m[rb]?=some ⟨k,78,rv,ez,Jb6 n (mF mv)⟩)(hn:n<=1000000):Ctr Tryz.prog 60 [.agg (ryC r),.one (.sl rb rv 0 n),.one (.int .i64 near),.one (.int .i64 far)] m (.tup [(true,htC (Jf1 r mv (Jh1 (Hq r mv near far) n))),(false,[.bool (Jh1 (Hq r mv near far) n).isSome])]) m:=by
 refine Ctr.en Tryz.func60 [.cell 8 183,.tmp 9] 48 fun hwf Q hQ=>?_
 obtain ⟨k0,e0,hb⟩:=hb
 have lb:=Jb2 hb
 have bl:(Jb6 n (mF mv)).length=n*24:=Ja9 (w:=24) (F:=mF mv) (fun _=>rfl) _
 have U1:=ca4 hb (Ja5 hb) bl (ca2 @Jh4 @Ja4)
 refine AW.c 3 U1 Tru ?_
 refine AW.q fun K J0=>?_
 refine AW.c 1 U1 Tru ?_
 apply AW.b
 refine AW.loopK [1,2,3,4,8,10] (fun i=>i<=n) (fun i=>[(11,.one (.bool (Jh1 (Hq r mv near far) i).isSome)),(12,.one (.int .i64 (i:Int)))]) (fun i=>[(m.length+2,⟨.fix,183,0,0,[.int .i64 (Jf1 r mv (Jh1 (Hq r mv near far) i)).t,.int .i64 (Jf1 r mv (Jh1 (Hq r mv near far) i)).i,.int .i64 ((Jf1 r mv (Jh1 (Hq r mv near far) i)).p 0),.int .i64 ((Jf1 r mv (Jh1 (Hq r mv near far) i)).p 1),.int .i64 ((Jf1 r mv (Jh1 (Hq r mv near far) i)).p 2),.int .i64 ((Jf1 r mv (Jh1 (Hq r mv near far) i)).n 0),.int .i64 ((Jf1 r mv (Jh1 (Hq r mv near far) i)).n 1),.int .i64 ((Jf1 r mv (Jh1 (Hq r mv near far) i)).n 2)]⟩)]) (fun i=>n - i) 0 (by omega) ?_ ?_ fun i hi2=>?_
 · first|rfl|(simp only [KS,simprocAttr,Jh1,Jf1,ht0,z0V,Int.natCast_zero,Option.isSome_none]<;>repeat' (first|rfl|apply And.intro))
 · first|rfl|(simp only [Ja2,push_cast,simprocAttr,Jh1,Jf1,ht0,z0V])<;>rfl
 try simp only [Jb1,Ja2,push_cast,simprocAttr,U1]
 refine AW.q fun K J1=>?_
 refine AW.c 1 U1 Tru ?_
 refine AW.cond rfl (fun h18=>?_) (fun h18=>?_)
 ·have hlt:i<n:=by have:=of_decide_eq_true h18;omega
  have c1:(0:Int)<=(i:Int):=by omega
  have c2:(i:Int)<(n:Int):=by omega
  have c1:(0:Int)<=(i:Int):=by omega
  have c2:(i:Int)<(n:Int):=by omega
  have c3:i*24+24<=n*24:=by omega
  have ga:=Jc0 (w:=24) (F:=mF mv) (fun _=>rfl) hlt
  have gx:=Xg5 mv i
  apply AW.z
  apply J1
  refine AW.q fun K J1=>?_
  apply AW.b
  refine AW.q fun K J2=>?_
  rcases Qp4 (Hq r mv near far) i with ⟨ho,hst⟩|⟨t,ho,hs0,hst⟩|⟨t,u,j,ho,hs0,hg,hst⟩|⟨t,u,j,ho,hs0,hg,hst⟩
  ·have hth:htC (Ju9 r (atM (mv i) r.part) none).1=[.int .i64 0,.int .i64 0,.int .i64 0,.int .i64 0,.int .i64 0,.int .i64 0,.int .i64 0,.int .i64 0]:=rfl
   have htb:(Ju9 r (atM (mv i) r.part) none).2=false:=rfl
   have ho9:Jr9 r (atM (mv i) r.part) near far=none:=ho
   have hs0:=ho
   have q_1:=Ku0 r (mv i) near far
   rw [ho9] at q_1
   have U2:=ca4 U1 c1 c2 (ca4 c3 ga gx (ca3 hlt hth htb))
   refine AW.e [.rd 0,.val,.val,.val,.rd 0,.val,.val,.ext,.val,.val,.val,.fl,.wr,.val] fol U2 q_1 ?_
   apply J2
   refine AW.q fun K J2=>?_
   refine AW.c 1 U2 Tru ?_
   apply AW.y rfl
   apply AW.v
   apply Jb0
   apply Ja6
   apply J1
   refine AW.g U2 Tru ?_
   apply Jc2
   have hwi:IntKind.i64.wrap ((i:Int)+1)=(i:Int)+1:=wi (by omega)
   refine ⟨i+1,by omega,by omega,?_⟩
   try simp only [Jb1,Ja2,push_cast,simprocAttr,U2,hwi,hst,hs0]
   exact Weak.to (extra:=_) (by simp only [KS,simprocAttr,hwi,hst,hs0]) (by first|rfl|(simp only [List.append_assoc,List.cons_append,List.nil_append];rfl)) (by first|rfl|(simp [AV.below,CV.below];done)|(simp [AV.below,CV.below];omega)) (by
     first|exact hwf|refine MWf.app (hwf.grow (by simp)) ?_
     repeat (first|exact Jb7|(refine Ja0 ?_ ?_;· first|rfl|(simp [CV.below];done)|(simp [CV.below];omega))))
  ·have hth:htC (Ju9 r (atM (mv i) r.part) (some t)).1=[.int .i64 t,.int .i64 0,.int .i64 (Je4 r t 0),.int .i64 (Je4 r t 1),.int .i64 (Je4 r t 2),.int .i64 (Jj8 r (atM (mv i) r.part) t 0),.int .i64 (Jj8 r (atM (mv i) r.part) t 1),.int .i64 (Jj8 r (atM (mv i) r.part) t 2)]:=rfl
   have htb:(Ju9 r (atM (mv i) r.part) (some t)).2=true:=rfl
   have hbh:htC (Jf1 r mv (some (t,i)))=[.int .i64 t,.int .i64 (i:Int),.int .i64 (Je4 r t 0),.int .i64 (Je4 r t 1),.int .i64 (Je4 r t 2),.int .i64 (Jj8 r (atM (mv i) r.part) t 0),.int .i64 (Jj8 r (atM (mv i) r.part) t 1),.int .i64 (Jj8 r (atM (mv i) r.part) t 2)]:=rfl
   have ho9:Jr9 r (atM (mv i) r.part) near far=some t:=ho
   have q_2:=Ku0 r (mv i) near far
   rw [ho9] at q_2
   have U3:=ca4 U1 c1 c2 (ca4 c3 ga gx (ca4 hlt hs0 hth (ca2 htb hbh)))
   refine AW.e [.rd 0,.val,.val,.val,.rd 0,.val,.val,.ext,.val,.val,.val,.fl,.wr,.val] fol U3 q_2 ?_
   apply J2
   refine AW.q fun K J2=>?_
   refine AW.c 1 U3 Tru ?_
   apply AW.x rfl
   apply AW.z
   apply J2
   refine AW.c 2 U3 Tru ?_
   apply AW.y rfl
   refine AW.c 1 U3 Tru ?_
   refine AW.g U3 Tru ?_
   apply Ja8
   apply J1
   refine AW.g U3 Tru ?_
   apply Jc2
   have hwi:IntKind.i64.wrap ((i:Int)+1)=(i:Int)+1:=wi (by omega)
   refine ⟨i+1,by omega,by omega,?_⟩
   try simp only [Jb1,Ja2,push_cast,simprocAttr,U3,hwi,hst,hs0]
   exact Weak.to (extra:=_) (by simp only [KS,simprocAttr,hwi,hst,hs0]) (by first|rfl|(simp only [List.append_assoc,List.cons_append,List.nil_append];rfl)) (by first|rfl|(simp [AV.below,CV.below];done)|(simp [AV.below,CV.below];omega)) (by
     first|exact hwf|refine MWf.app (hwf.grow (by simp)) ?_
     repeat (first|exact Jb7|(refine Ja0 ?_ ?_;· first|rfl|(simp [CV.below];done)|(simp [CV.below];omega))))
  ·have hth:htC (Ju9 r (atM (mv i) r.part) (some t)).1=[.int .i64 t,.int .i64 0,.int .i64 (Je4 r t 0),.int .i64 (Je4 r t 1),.int .i64 (Je4 r t 2),.int .i64 (Jj8 r (atM (mv i) r.part) t 0),.int .i64 (Jj8 r (atM (mv i) r.part) t 1),.int .i64 (Jj8 r (atM (mv i) r.part) t 2)]:=rfl
   have htb:(Ju9 r (atM (mv i) r.part) (some t)).2=true:=rfl
   have hbh:htC (Jf1 r mv (some (t,i)))=[.int .i64 t,.int .i64 (i:Int),.int .i64 (Je4 r t 0),.int .i64 (Je4 r t 1),.int .i64 (Je4 r t 2),.int .i64 (Jj8 r (atM (mv i) r.part) t 0),.int .i64 (Jj8 r (atM (mv i) r.part) t 1),.int .i64 (Jj8 r (atM (mv i) r.part) t 2)]:=rfl
   have ho9:Jr9 r (atM (mv i) r.part) near far=some t:=ho
   have hbt:(Jf1 r mv (some (u,j))).t=u:=rfl
   have q_3:=Ku0 r (mv i) near far
   rw [ho9] at q_3
   have U4:=ca4 U1 c1 c2 (ca4 c3 ga gx (ca4 hlt hs0 hth (ca4 htb hbh hbt hg)))
   refine AW.e [.rd 0,.val,.val,.val,.rd 0,.val,.val,.ext,.val,.val,.val,.fl,.wr,.val] fol U4 q_3 ?_
   apply J2
   refine AW.q fun K J2=>?_
   refine AW.c 1 U4 Tru ?_
   apply AW.x rfl
   apply AW.z
   apply J2
   refine AW.c 2 U4 Tru ?_
   apply AW.y rfl
   refine AW.c 1 U4 Tru ?_
   refine AW.g U4 Tru ?_
   apply Ja8
   apply J1
   refine AW.g U4 Tru ?_
   apply Jc2
   have hwi:IntKind.i64.wrap ((i:Int)+1)=(i:Int)+1:=wi (by omega)
   refine ⟨i+1,by omega,by omega,?_⟩
   try simp only [Jb1,Ja2,push_cast,simprocAttr,U4,hwi,hst,hs0]
   exact Weak.to (extra:=_) (by simp only [KS,simprocAttr,hwi,hst,hs0]) (by first|rfl|(simp only [List.append_assoc,List.cons_append,List.nil_append];rfl)) (by first|rfl|(simp [AV.below,CV.below];done)|(simp [AV.below,CV.below];omega)) (by
     first|exact hwf|refine MWf.app (hwf.grow (by simp)) ?_
     repeat (first|exact Jb7|(refine Ja0 ?_ ?_;· first|rfl|(simp [CV.below];done)|(simp [CV.below];omega))))
  have hth:htC (Ju9 r (atM (mv i) r.part) (some t)).1=[.int .i64 t,.int .i64 0,.int .i64 (Je4 r t 0),.int .i64 (Je4 r t 1),.int .i64 (Je4 r t 2),.int .i64 (Jj8 r (atM (mv i) r.part) t 0),.int .i64 (Jj8 r (atM (mv i) r.part) t 1),.int .i64 (Jj8 r (atM (mv i) r.part) t 2)]:=rfl
  have htb:(Ju9 r (atM (mv i) r.part) (some t)).2=true:=rfl
  have hbh:htC (Jf1 r mv (some (t,i)))=[.int .i64 t,.int .i64 (i:Int),.int .i64 (Je4 r t 0),.int .i64 (Je4 r t 1),.int .i64 (Je4 r t 2),.int .i64 (Jj8 r (atM (mv i) r.part) t 0),.int .i64 (Jj8 r (atM (mv i) r.part) t 1),.int .i64 (Jj8 r (atM (mv i) r.part) t 2)]:=rfl
  have ho9:Jr9 r (atM (mv i) r.part) near far=some t:=ho
  have hbt:(Jf1 r mv (some (u,j))).t=u:=rfl
  have q_4:=Ku0 r (mv i) near far
  rw [ho9] at q_4
  have U5:=ca4 U1 c1 c2 (ca4 c3 ga gx (ca4 hlt hs0 hth (ca4 htb hbh hbt hg)))
  refine AW.e [.rd 0,.val,.val,.val,.rd 0,.val,.val,.ext,.val,.val,.val,.fl,.wr,.val] fol U5 q_4 ?_
  apply J2
  refine AW.q fun K J2=>?_
  refine AW.c 1 U5 Tru ?_
  apply AW.x rfl
  apply AW.z
  apply J2
  refine AW.c 2 U5 Tru ?_
  apply AW.x rfl
  apply AW.z
  apply Ja8
  apply J1
  refine AW.g U5 Tru ?_
  apply Jc2
  have hwi:IntKind.i64.wrap ((i:Int)+1)=(i:Int)+1:=wi (by omega)
  refine ⟨i+1,by omega,by omega,?_⟩
  try simp only [Jb1,Ja2,push_cast,simprocAttr,U5,hwi,hst,hs0]
  exact Weak.to (extra:=_) (by simp only [KS,simprocAttr,hwi,hst,hs0]) (by first|rfl|(simp only [List.append_assoc,List.cons_append,List.nil_append];rfl)) (by first|rfl|(simp [AV.below,CV.below];done)|(simp [AV.below,CV.below];omega)) (by
    first|exact hwf|refine MWf.app (hwf.grow (by simp)) ?_
    repeat (first|exact Jb7|(refine Ja0 ?_ ?_;· first|rfl|(simp [CV.below];done)|(simp [CV.below];omega))))
 have hin:i=n:=by have:=of_decide_eq_false h18;omega
 rw [hin]
 apply AW.v
 apply Jb0
 apply Jb0
 apply Ja6
 apply J0
 refine AW.c 1 U1 Tru ?_
 exact AW.ret (hQ _ _ _ (RetP.z hwf Tru))
theorem Vc1 (w sb sv n:Nat)(cnt:Int)(l:List Nat)(m:Ja1)(hw:m[w]?=some ⟨.fix,251,0,0,[.sl sb sv 0 n,.int .i64 cnt]⟩)(hs:m[sb]?=some ⟨.grow,3,sv,1,iC l⟩)(hd:w≠sb)(h0:n=0):Ctr Tryz.prog 122 [.one (.ptr w 0 0)] m (.tup [(false,[.int .i64 0]),(false,[.bool false])]) m:=by
 refine Ctr.en Tryz.func122 [.tmp 2,.tmp 3] 39 fun hwf Q hQ=>?_
 subst h0
 have lw:=Jb2 hw
 have U1:=ca2 hw (Ja5 hw)
 refine AW.c 2 U1 Tru ?_
 refine AW.q fun K J0=>?_
 refine AW.c 1 U1 Tru ?_
 apply AW.y rfl
 refine AW.c 1 U1 Tru ?_
 exact AW.ret (hQ _ _ _ (RetP.z hwf U1))
theorem Kv3 (w sb sv:Nat)(cnt:Int)(l:List Nat)(x:Nat)(m:Ja1)(hw:m[w]?=some ⟨.fix,251,0,0,[.sl sb sv 0 (l.length+1),.int .i64 cnt]⟩)(hs:m[sb]?=some ⟨.grow,3,sv,1,iC (l++[x])⟩)(hd:w≠sb)(hc:0<=cnt/\cnt<=1000000000)(hl:l.length<=1000000):Ctr Tryz.prog 122 [.one (.ptr w 0 0)] m (.tup [(false,[.int .i64 (x:Int)]),(false,[.bool true])]) ((m.set w ⟨.fix,251,0,0,[.sl sb sv 0 l.length,.int .i64 (cnt+1)]⟩).set sb ⟨.grow,3,sv,1,iC l⟩):=by
 refine Ctr.en Tryz.func122 [.tmp 2,.tmp 3] 39 fun hwf Q hQ=>?_
 have lw:=Jb2 hw
 have ls:=Jb2 hs
 have hds:=hd.symm
 have e1:(((l.length+1:Nat):Int) ==0)=false:=by simp;omega
 have e1b:(((l.length:Int)+1) ==0)=false:=by simp;omega
 have e2:IntKind.i64.wrap ((l.length:Int)+1 - 1)=(l.length:Int):=by rw [show (l.length:Int)+1 - 1=(l.length:Int) by omega];exact wi (by omega)
 have e3:IntKind.i64.wrap (cnt+1)=cnt+1:=wi (by omega)
 have e4:(0:Int)<=(l.length:Int):=by omega
 have e5:(l.length:Int)<(l.length:Int)+1:=by omega
 have e6:(l.length:Int)<=(l.length:Int)+1:=by omega
 have e7:(iC (l++[x]))[l.length]?=some (.int .i64 (x:Int)):=by rw [<-Jx6,List.getElem?_append_right (by rw [Jg8];omega),Jg8,Nat.sub_self];rfl
 have e8:(iC (l++[x])).length=l.length+1:=by rw [Jg8];simp
 have e9:l.length<=l.length+1:=by omega
 have e10:l.length<l.length+1:=by omega
 have ht:(iC (l++[x])).take l.length=iC l:=by rw [<-Jx6,List.take_append_of_le_length (by rw [Jg8];omega),List.take_of_length_le (by rw [Jg8];omega)]
 have k1:∀ B,(m.set w B)[sb]?=m[sb]?:=fun B=>List.getElem?_set_ne hd
 have k2:∀ B,(m.set w B)[w]?=some B:=fun B=>List.getElem?_set_self lw
 have U2:=ca4 hw (Ja5 hw) hs (ca4 (Ja5 hs) e1 e1b (ca4 e2 e3 e4 (ca4 e5 e6 e7 (ca4 e8 e9 e10 (ca4 k1 k2 hd hds)))))
 refine AW.c 2 U2 Tru ?_
 refine AW.q fun K J0=>?_
 refine AW.c 1 U2 Tru ?_
 apply AW.x rfl
 apply AW.z
 apply J0
 refine AW.c 3 U2 Tru ?_
 refine AW.cut sb l.length (b:=⟨.grow,3,sv,1,iC (l++[x])⟩) (by simp only [push_cast,simprocAttr,k1,hs,List.set_set]) rfl ?_
 simp only [push_cast,simprocAttr,ht,List.set_set]
 refine AW.c 1 U2 Tru ?_
 refine AW.ret ?_
 refine hQ _ _ _ ?_
 refine RetP.dropM0 (by simp) (by first|exact Or.inr rfl|exact Or.inl rfl) ?_ ?_ (Js4 (Js4 hwf (by simp [CV.below];omega) rfl) (Jg9 _ _) rfl)
 · (simp only [Jd0,Ja7,Jb5,AV.tv,push_cast,simprocAttr])<;>rfl
 rfl
theorem Xb4 (a:Int):0<=Jo0 a:=by unfold Jo0;split<;>omega
theorem Vc3 (a:Int):0<=Je0 a a:=by
 unfold Je0
 have h:0<=Ja3 a*Ja3 a:=by
  rcases Int.le_total 0 (Ja3 a) with h|h
  ·exact Int.mul_nonneg h h
  exact Int.mul_nonneg_of_nonpos_of_nonpos h h
 have:=Jd2 (show (0:Int)<=Ja3 a*Ja3 a / 65536 by omega)
 have h0:Ja3 0=0:=by decide
 omega
theorem Vg8 {a b:Int}(ha:0<=a)(hb:0<=b):0<=Jd6 a b:=by
 unfold Jd6
 have h0:Ja3 0=0:=by decide
 have h1:=Jd2 ha
 have h2:=Jd2 hb
 have:=Jd2 (show (0:Int)<=Ja3 a+Ja3 b by omega)
 omega
theorem Xu5 (d:V):0<=Je9 d d:=by
 unfold Je9 Qf8
 exact Vg8 (Vg8 (Vg8 (Int.le_refl _) (Vc3 _)) (Vc3 _)) (Vc3 _)
theorem Vs9 (a b:V):Ja3 (Je9 a b)=Je9 a b:=by
 unfold Je9 Qf8 Jd6
 exact Jc5 (Jc9 _)
theorem Qs6 {a b d:Int}(hd:0<d)(h:a<=b):Jk0 a d<=Jk0 b d:=by
 unfold Jk0
 first
 | exact Int.ediv_le_ediv hd h
 | (split<;>first|exact Int.ediv_le_ediv hd h|omega)
theorem Vt0 {x y d:Int}(hd:0<Ja3 d)(h:Ja3 x<=Ja3 y):Jh2 x d<=Jh2 y d:=by
 unfold Jh2
 rw [if_neg (by omega),if_neg (by omega)]
 exact Jd2 (Qs6 hd (by omega))
theorem Qg5 (r:RY)(P:PL):(Jw5 r P).Pairwise (·<=·):=by
 unfold Jw5
 split
 ·split
  ·exact List.Pairwise.nil
  rename_i hne
  have hA:¬Je9 r.d r.d=0:=fun h=>hne (.inr h)
  have hd:0<Ja3 (Je9 r.d r.d):=by rw [Vs9];have:=Xu5 r.d;omega
  generalize Je9 (Jb4 r.o (P.P 0)) r.d=B
  generalize hR:Jo0 _=R
  have hr:0<=R:=by rw [<-hR];exact Xb4 _
  refine List.Pairwise.cons (fun t ht=>?_) (List.Pairwise.cons (fun t ht=>by cases ht) List.Pairwise.nil)
  simp only [List.mem_cons,List.not_mem_nil,or_false] at ht
  subst ht
  refine Vt0 hd ?_
  have hb:=Jc9 B
  have h0:Ja3 (-Ja3 B)=-Ja3 B:=Jc5 (by omega)
  have h1:=Jd2 hr
  have h2:Ja3 0=0:=by decide
  refine Jd2 ?_
  unfold Jf8
  rw [h0]
  exact Jd2 (by omega)
 split
 ·exact List.Pairwise.nil
 exact List.Pairwise.cons (fun t ht=>by cases ht) List.Pairwise.nil
theorem Vh4 (r:RY)(mv:Nat->MV)(near far:Int)(i:Nat)(t:Int)(h:Hq r mv near far i=some t):t<=far:=(Vx1 h).2.1
open Classical in
theorem Xy0 (r:RY)(mv:Nat->MV)(near far:Int)(i:Nat)(t:Int)(h:Hq r mv near far i=some t):Kb1 (atM (mv i) r.part) r near far t:=by
 obtain ⟨h1,h2,h3,_⟩:=Vx1 h
 exact ⟨h1,h2,of_decide_eq_true h3⟩
theorem Xm4 (r:RY)(mv:Nat->MV){near far far':Int}(h:far'<=far)(i:Nat):Hq r mv near far' i=(Hq r mv near far i).filter fun t=>decide (t<=far'):=Qm1 h (Qg5 r _)
theorem Vb8 {r:RY}{mv:Nat->MV}{near far far':Int}{p:PR}{i:Nat}{t:Int}(hc:∀ u q,Ka5 (atP (prM mv i) u) q->Ka5 (atP p u) q)(hm:¬Ju4 (atP p r.part) (Jz7 r near far'))(h:Hq r mv near far i=some t):far'<t:=by
 refine Int.not_le.1 fun hle=>hm ?_
 obtain ⟨h1,h2,h3⟩:=Xy0 r mv near far i t h
 exact Vo7 (hc _ _ (Xf8 (ry_b r t) h3)) (Vj6 r (Int.le_of_lt h1) hle)
def Jy3 (l:List ND)(i:Nat):ND:=(l[i]?).getD ⟨⟨⟨fun _=>0,fun _=>0⟩,⟨fun _=>0,fun _=>0⟩⟩,-1,-1,0,0⟩
def Xm8 (prs:Nat->PR)(l:List ND)(o:List Nat)(at' x:Nat):Prop:=∀ i u q,o[x]?=some i->Ka5 (atP (prs i) u) q->Ka5 (atP (Jy3 l at').p u) q
theorem Vb9 {l:List ND}{C:Nat->Nat->Prop}{t:TR}{a b:Nat}(h:Fit (Jy3 l) C t a b):t.root<l.length:=by
 refine Classical.byContradiction fun hn=>?_
 have e:Jy3 l t.root=⟨⟨⟨fun _=>0,fun _=>0⟩,⟨fun _=>0,fun _=>0⟩⟩,-1,-1,0,0⟩:=by unfold Jy3;rw [List.getElem?_eq_none (by omega)];rfl
 cases h with
 | leaf at' _ _ h1 _ _ hc _=>have e:Jy3 l at'=_:=e;rw [e] at hc;have hc:(0:Int)=_:=hc;omega
 | node at' l' r' _ _ _ hc hl hr _ _ _=>have e:Jy3 l at'=_:=e;rw [e] at hl;have hl:(-1:Int)=_:=hl;omega
theorem Vo1 {l:List ND}{i:Nat}(h:i<l.length):Jy3 l i=l.getD i nd0:=by unfold Jy3;rw [List.getD_eq_getElem?_getD,List.getElem?_eq_getElem h];rfl
theorem Vj1 (prs:Nat->PR){n:Nat}(h0:0<n):∃ t,Fit (Jy3 (Jj0 prs n).2) (Xm8 prs (Jj0 prs n).2 (Jj0 prs n).1) t 0 n/\t.root=0/\(Jj0 prs n).1.Perm (List.range n)/\(Jj0 prs n).1.length=n/\0<(Jj0 prs n).2.length/\(Jj0 prs n).2.length<=2*n:=by
 have k:=Ka2 (prs:=prs) (mid:=Qu4 prs) n 0 n (List.range n,[]) (by omega) h0 (by simp)
 have c:=Ju2 (prs:=prs) (mid:=Qu4 prs) n 0 n (List.range n,[]) (by omega) h0 (by simp)
 have e:Jt0 prs (Qu4 prs) n 0 n (List.range n,[])=Jj0 prs n:=rfl
 rw [e] at k c
 have hl:(Jj0 prs n).1.length=n:=k.len.trans (by simp)
 obtain ⟨t,h1,h2⟩:=k.fit (Jj0 prs n).1 (Jy3 (Jj0 prs n).2) (List.Perm.refl _) (fun _ _ _=>rfl) (fun i nd _ hi=>by unfold Jy3;rw [hi];rfl)
 refine ⟨t,h1,h2,?_,hl,k.lt,by have:(Jj0 prs n).2.length+1<=0+2*(n - 0):=c;omega⟩
 have:=k.same.1
 have e1:Jk8 (List.range n) 0 n=List.range n:=by unfold Jk8;rw [List.drop_zero,Nat.sub_zero];exact List.take_of_length_le (by simp)
 have e2:Jk8 (Jj0 prs n).1 0 n=(Jj0 prs n).1:=by unfold Jk8;rw [List.drop_zero,Nat.sub_zero];exact List.take_of_length_le (by omega)
 have this:(Jk8 (List.range n) 0 n).Perm (Jk8 (Jj0 prs n).1 0 n):=this
 rw [e1,e2] at this
 exact this.symm
structure VW where
 (e f r u:V) (wd w h:Int)
def vwC (v:VW):List CV:=c3C v.e++(c3C v.f++(c3C v.r++(c3C v.u++[.int .i64 v.wd,.int .i64 v.w,.int .i64 v.h])))
theorem Vu8 (v:VW):vwC v=[.int .i64 (v.e 0),.int .i64 (v.e 1),.int .i64 (v.e 2),.int .i64 (v.f 0),.int .i64 (v.f 1),.int .i64 (v.f 2),.int .i64 (v.r 0),.int .i64 (v.r 1),.int .i64 (v.r 2),.int .i64 (v.u 0),.int .i64 (v.u 1),.int .i64 (v.u 2),.int .i64 (v.wd),.int .i64 (v.w),.int .i64 (v.h)]:=rfl
def orV (a b:V):V:=if z3 a=true then b else a
noncomputable def Xn3 (s:SC)(x:Int):V:=orV (Jb8 (Jb4 (Jk1 s s.lk x) (Jk1 s s.ey x))) (v3V 0 0 65536)
noncomputable def rgtV (f:V):V:=orV (Jb8 (Jd4 (v3V 0 65536 0) f)) (v3V 65536 0 0)
noncomputable def Jj7 (s:SC)(x:Int):VW:=⟨Jk1 s s.ey x,Xn3 s x,rgtV (Xn3 s x),Jd4 (Xn3 s x) (rgtV (Xn3 s x)),s.wd,s.w,s.h⟩
theorem or_t (a b:V)(m:Ja1)(g:(a 0 ==0&&(a 1 ==0&&a 2 ==0))=true):Ctr Tryz.prog 105 [.agg (c3C a),.agg (c3C b)] m (.agg (c3C (orV a b))) m:=by
 refine Ctr.en Tryz.func105 [.cell 4 59] 10 fun hwf Q hQ=>?_
 have hv:orV a b=b:=if_pos g
 rw [hv] at hQ
 have U1:=ca2 @Ja4 g
 refine AW.c 1 U1 Tru ?_
 refine AW.q fun K J0=>?_
 refine AW.c 1 U1 Tru ?_
 apply AW.y rfl
 refine AW.c 1 U1 Tru ?_
 exact AW.ret (hQ _ _ _ (RetP.z hwf Tru))
theorem or_f (a b:V)(m:Ja1)(g:(a 0 ==0&&(a 1 ==0&&a 2 ==0))=false):Ctr Tryz.prog 105 [.agg (c3C a),.agg (c3C b)] m (.agg (c3C (orV a b))) m:=by
 refine Ctr.en Tryz.func105 [.cell 4 59] 10 fun hwf Q hQ=>?_
 have hv:orV a b=a:=if_neg (by show ¬(a 0 ==0&&(a 1 ==0&&a 2 ==0))=true;rw [g];decide)
 rw [hv] at hQ
 have U2:=ca2 @Ja4 g
 refine AW.c 1 U2 Tru ?_
 refine AW.q fun K J0=>?_
 refine AW.c 1 U2 Tru ?_
 apply AW.x rfl
 apply AW.z
 apply J0
 refine AW.c 1 U2 Tru ?_
 exact AW.ret (hQ _ _ _ (RetP.z hwf Tru))
theorem or_c (a b:V)(m:Ja1):Ctr Tryz.prog 105 [.agg (c3C a),.agg (c3C b)] m (.agg (c3C (orV a b))) m:=by
 cases g:(a 0 ==0&&(a 1 ==0&&a 2 ==0))
 ·exact or_f a b m g
 exact or_t a b m g
theorem Qh6 (s:SC)(R:RWs)(x:Int)(m:Ja1)(hR:ScR 140 119 223 148 155 m s R)(hT:∀ i,i<s.nt->TrS s i):Ctr Tryz.prog 39 [.agg (scC s R),.one (.int .i64 x)] m (.agg (vwC (Jj7 s x))) m:=by
 refine Ctr.en Tryz.func39 [.cell 4 90] 44 fun hwf Q hQ=>?_
 obtain ⟨F,hF⟩:∃ F,F=Xn3 s x:=⟨_,rfl⟩
 obtain ⟨G,hG⟩:∃ G,G=rgtV F:=⟨_,rfl⟩
 have hv:vwC (Jj7 s x)=c3C (Jk1 s s.ey x)++(c3C F++(c3C G++(c3C (Jd4 F G)++[.int .i64 s.wd,.int .i64 s.w,.int .i64 s.h]))):=by rw [hG,hF];rfl
 rw [hv] at hQ
 have U3:=ca4 @Jf4 @Je7 @Jf3 @Ja4
 refine AW.c 1 U3 Tru ?_
 refine AW.d [.rd 0,.val,.ext,.val,.val,.rd 0,.val,.val,.rd 0,.val,.val,.rd 0,.val,.fl,.wr] fol U3 (eye_c s R x _ (hR.app _) hT) ?_
 have q_1:=or_c (Jb8 (Jb4 (Jk1 s s.lk x) (Jk1 s s.ey x))) (v3V 0 0 65536)
 rw [show orV (Jb8 (Jb4 (Jk1 s s.lk x) (Jk1 s s.ey x))) (v3V 0 0 65536)=F from hF.symm] at q_1
 refine AW.d [.rd 0,.val,.ext,.val,.rd 0,.ext,.ext,.ext,.ext,.val,.wr] fol U3 (ca4 (Xs3 s R x _ (hR.app _) hT) (Jk4 (Jk1 s s.lk x) (Jk1 s s.ey x)) (Jr5 (Jb4 (Jk1 s s.lk x) (Jk1 s s.ey x))) (ca2 Qa7 q_1)) ?_
 have q_2:=or_c (Jb8 (Jd4 (v3V 0 65536 0) F)) (v3V 65536 0 0)
 rw [show orV (Jb8 (Jd4 (v3V 0 65536 0) F)) (v3V 65536 0 0)=G from hG.symm] at q_2
 refine AW.d [.ext,.val,.rd 0,.ext,.ext,.ext,.ext,.val,.wr] fol U3 (ca4 Qa7 (Jn7 (v3V 0 65536 0) F) (Jr5 (Jd4 (v3V 0 65536 0) F)) q_2) ?_
 refine AW.c 2 U3 (Jn7 F G) ?_
 exact AW.ret (hQ _ _ _ (RetP.z hwf Tru))
theorem Kj6 (s:SC)(R:RWs)(x:Int)(m:Ja1)(hR:ScR 138 143 285 146 150 m s R)(hT:∀ i,i<s.nt->TrS s i)(hE:s.ey<(s.nt:Int))(hL:s.lk<(s.nt:Int)):Ctr Tryz.prog 25 [.agg (scC s R),.one (.int .i64 x)] m (.agg (vwC (Jj7 s x))) m:=by
 refine Ctr.en Tryz.func25 [.cell 4 87] 55 fun hwf Q hQ=>?_
 obtain ⟨F,hF⟩:∃ F,F=Xn3 s x:=⟨_,rfl⟩
 obtain ⟨G,hG⟩:∃ G,G=rgtV F:=⟨_,rfl⟩
 have hv:vwC (Jj7 s x)=c3C (Jk1 s s.ey x)++(c3C F++(c3C G++(c3C (Jd4 F G)++[.int .i64 s.wd,.int .i64 s.w,.int .i64 s.h]))):=by rw [hG,hF];rfl
 rw [hv] at hQ
 have U4:=ca4 @Jf4 @Je7 @Jf3 @Ja4
 refine AW.c 1 U4 Tru ?_
 refine AW.d [.rd 0,.val,.rd 0,.val,.ext,.val,.rd 0,.val,.val,.rd 0,.val,.val,.rd 0,.val,.fl,.wr] fol U4 (Qi7 s R s.ey x _ (hR.app _) hT hE) ?_
 refine AW.d [.rd 0,.val,.rd 0,.val,.ext,.val,.rd 0,.ext,.ext,.val,.wr] fol U4 (ca3 (Qi7 s R s.lk x _ (hR.app _) hT hL) (Jg3 (Jk1 s s.lk x) (Jk1 s s.ey x)) (Jn1 (Jb4 (Jk1 s s.lk x) (Jk1 s s.ey x)))) ?_
 refine AW.q fun K J0=>?_
 refine AW.c 1 U4 Tru ?_
 refine AW.condJ rfl [4,5] [] [(m.length+2,⟨.fix,87,0,0,[.int .i64 (Jk1 s s.ey x 0),.int .i64 (Jk1 s s.ey x 1),.int .i64 (Jk1 s s.ey x 2),.int .i64 (F 0),.int .i64 (F 1),.int .i64 (F 2),.int .i64 0,.int .i64 0,.int .i64 0,.int .i64 0,.int .i64 0,.int .i64 0,.int .i64 s.wd,.int .i64 s.w,.int .i64 s.h]⟩)] (fun h33=>?_) (fun h33=>?_) ?_
 ·have hXe:F=v3V 0 0 65536:=by rw [hF];exact if_pos h33
  have f0:F 0=0:=by rw [hXe];rfl
  have f1:F 1=0:=by rw [hXe];rfl
  have f2:F 2=65536:=by rw [hXe];rfl
  refine AW.g U4 Tru ?_
  apply Jc2
  try simp only [Jb1,Ja2,push_cast,simprocAttr,U4,f0,f1,f2]
  exact Weak.same (by simp only [KS,simprocAttr,f0,f1,f2]) (by first|rfl|simp only [KS,simprocAttr,f0,f1,f2])
 ·have hXe:F=(Jb8 (Jb4 (Jk1 s s.lk x) (Jk1 s s.ey x))):=by rw [hF];exact if_neg (fun q=>by rw [show z3 (Jb8 (Jb4 (Jk1 s s.lk x) (Jk1 s s.ey x)))=false from h33] at q;cases q)
  have f0:F 0=(Jb8 (Jb4 (Jk1 s s.lk x) (Jk1 s s.ey x))) 0:=by rw [hXe]
  have f1:F 1=(Jb8 (Jb4 (Jk1 s s.lk x) (Jk1 s s.ey x))) 1:=by rw [hXe]
  have f2:F 2=(Jb8 (Jb4 (Jk1 s s.lk x) (Jk1 s s.ey x))) 2:=by rw [hXe]
  apply AW.z
  apply Jc2
  try simp only [Jb1,Ja2,push_cast,simprocAttr,U4,f0,f1,f2]
  exact Weak.same (by simp only [KS,simprocAttr,f0,f1,f2]) (by first|rfl|simp only [KS,simprocAttr,f0,f1,f2])
 try simp only [Jb1,Ja2,push_cast,simprocAttr,U4]
 apply J0
 refine AW.c 1 U4 (ca2 (Ji9 (v3V 0 65536 0) F) (Jn1 (Jd4 (v3V 0 65536 0) F))) ?_
 refine AW.q fun K J0=>?_
 refine AW.c 1 U4 Tru ?_
 refine AW.condJ rfl [4,5] [] [(m.length+2,⟨.fix,87,0,0,[.int .i64 (Jk1 s s.ey x 0),.int .i64 (Jk1 s s.ey x 1),.int .i64 (Jk1 s s.ey x 2),.int .i64 (F 0),.int .i64 (F 1),.int .i64 (F 2),.int .i64 (G 0),.int .i64 (G 1),.int .i64 (G 2),.int .i64 0,.int .i64 0,.int .i64 0,.int .i64 s.wd,.int .i64 s.w,.int .i64 s.h]⟩)] (fun h45=>?_) (fun h45=>?_) ?_
 ·have hXe:G=v3V 65536 0 0:=by rw [hG];exact if_pos h45
  have f0:G 0=65536:=by rw [hXe];rfl
  have f1:G 1=0:=by rw [hXe];rfl
  have f2:G 2=0:=by rw [hXe];rfl
  refine AW.g U4 Tru ?_
  apply Jc2
  try simp only [Jb1,Ja2,push_cast,simprocAttr,U4,f0,f1,f2]
  exact Weak.same (by simp only [KS,simprocAttr,f0,f1,f2]) (by first|rfl|simp only [KS,simprocAttr,f0,f1,f2])
 ·have hXe:G=(Jb8 (Jd4 (v3V 0 65536 0) F)):=by rw [hG];exact if_neg (fun q=>by rw [show z3 (Jb8 (Jd4 (v3V 0 65536 0) F))=false from h45] at q;cases q)
  have f0:G 0=(Jb8 (Jd4 (v3V 0 65536 0) F)) 0:=by rw [hXe]
  have f1:G 1=(Jb8 (Jd4 (v3V 0 65536 0) F)) 1:=by rw [hXe]
  have f2:G 2=(Jb8 (Jd4 (v3V 0 65536 0) F)) 2:=by rw [hXe]
  apply AW.z
  apply Jc2
  try simp only [Jb1,Ja2,push_cast,simprocAttr,U4,f0,f1,f2]
  exact Weak.same (by simp only [KS,simprocAttr,f0,f1,f2]) (by first|rfl|simp only [KS,simprocAttr,f0,f1,f2])
 try simp only [Jb1,Ja2,push_cast,simprocAttr,U4]
 apply J0
 refine AW.c 2 U4 (Ji9 F G) ?_
 exact AW.ret (hQ _ _ _ (RetP.z hwf Tru))
def Xg1 (a b:VW)(t:Int):VW:=⟨Kg7 a.e b.e t,Kg7 a.f b.f t,Kg7 a.r b.r t,Kg7 a.u b.u t,a.wd,a.w,a.h⟩
theorem Jy9 (v:VW):vwC v=(c3C v.e++(c3C v.f++(c3C v.r++(c3C v.u++[.int .i64 v.wd,.int .i64 v.w,.int .i64 v.h])))):=rfl
theorem Xr9 (a b:VW)(t:Int)(m:Ja1):Ctr Tryz.prog 48 [.agg (vwC a),.agg (vwC b),.one (.int .i64 t)] m (.agg (vwC (Xg1 a b t))) m:=by
 refine Ctr.en Tryz.func48 [.cell 6 90] 36 fun hwf Q hQ=>?_
 have U1:=ca2 @Jy9 @Ja4
 refine AW.c 2 U1 (Kh1 a.e b.e t) ?_
 refine AW.d [.val,.rd 0,.val,.rd 0,.val,.ext,.val,.rd 0,.val,.rd 0,.val,.ext,.val,.rd 0,.val,.rd 0,.val,.ext,.val,.wr,.val,.wr,.val,.wr] fol U1 (ca3 (Kh1 a.f b.f t) (Kh1 a.r b.r t) (Kh1 a.u b.u t)) ?_
 refine AW.c 1 U1 Tru ?_
 exact AW.ret (hQ _ _ _ (RetP.z hwf Tru))
theorem Xb7 (a b:VW)(t:Int)(m:Ja1):Ctr Tryz.prog 58 [.agg (vwC a),.agg (vwC b),.one (.int .i64 t)] m (.agg (vwC (Xg1 a b t))) m:=by
 refine Ctr.en Tryz.func58 [.cell 6 87] 38 fun hwf Q hQ=>?_
 have U2:=ca2 @Jy9 @Ja4
 refine AW.c 7 U2 (ca4 (Kc3 a.e b.e t) (Kc3 a.f b.f t) (Kc3 a.r b.r t) (Kc3 a.u b.u t)) ?_
 exact AW.ret (hQ _ _ _ (RetP.z hwf Tru))
def rayX (v:VW)(x dx:Int):Int:=Jh2 (Jf8 (2*Jd6 (ofI x) (Jb9 dx)) (ofI v.w)) (ofI v.h)
def rayY (v:VW)(y dy:Int):Int:=Jh2 (Jf8 (ofI v.h) (2*Jd6 (ofI y) (Jb9 dy))) (ofI v.h)
def rayD (v:VW)(px py:Int):V:=Jd9 (Jd9 (Jd9 z0V v.f) (Je1 v.r (Je0 px v.wd))) (Je1 v.u (Je0 py v.wd))
noncomputable def Vi2 (v:VW)(x y dx dy part:Int):RY:=⟨v.e,orV (Jb8 (rayD v (rayX v x dx) (rayY v y dy))) v.f,part⟩
theorem Xn6 (v:VW)(x y dx dy part:Int)(m:Ja1):Ctr Tryz.prog 49 [.agg (vwC v),.one (.int .i64 x),.one (.int .i64 y),.one (.int .i64 dx),.one (.int .i64 dy),.one (.int .i64 part)] m (.agg (ryC (Vi2 v x y dx dy part))) m:=by
 refine Ctr.en Tryz.func49 [.cell 12 161] 69 fun hwf Q hQ=>?_
 obtain ⟨px,hx⟩:∃ p,rayX v x dx=p:=⟨_,rfl⟩
 obtain ⟨py,hy⟩:∃ p,rayY v y dy=p:=⟨_,rfl⟩
 have hx1:Jh2 (Jf8 (2*Jd6 (ofI x) (Jb9 dx)) (ofI v.w)) (ofI v.h)=px:=hx
 have hy1:Jh2 (Jf8 (ofI v.h) (2*Jd6 (ofI y) (Jb9 dy))) (ofI v.h)=py:=hy
 have b1:=Jc9 (Ja3 (ofI x)+Ja3 (Jb9 dx))
 have b2:=Jc9 (Ja3 (ofI y)+Ja3 (Jb9 dy))
 have w1:IntKind.i64.wrap (2*Jd6 (ofI x) (Jb9 dx))=2*Jd6 (ofI x) (Jb9 dx):=wi (by unfold Jd6;omega)
 have w2:IntKind.i64.wrap (2*Jd6 (ofI y) (Jb9 dy))=2*Jd6 (ofI y) (Jb9 dy):=wi (by unfold Jd6;omega)
 obtain ⟨D,hD⟩:∃ D,D=rayD v px py:=⟨_,rfl⟩
 obtain ⟨F,hF⟩:∃ F,F=orV (Jb8 D) v.f:=⟨_,rfl⟩
 have hv:ryC (Vi2 v x y dx dy part)=c3C v.e++(c3C F++[.int .i64 part]):=by unfold Vi2;rw [hx,hy,<-hD,<-hF];rfl
 rw [hv] at hQ
 have U3:=ca4 @Jy9 @Ja4 w1 (ca3 w2 hx1 hy1)
 refine AW.c 2 U3 Xn2 ?_
 refine AW.d [.val,.ext,.val,.ext,.ext,.val,.val,.rd 0,.ext,.ext,.val,.ext,.val] fol U3 (ca4 Xn2 Jz3 Jz2 (ca2 Js6 Jr4)) ?_
 refine AW.c 1 U3 (ca4 Xn2 Jz3 Jz2 (ca2 Js6 Jr4)) ?_
 refine AW.q fun K J0=>?_
 refine AW.draw [.val,.rd 0,.val,.rd 0,.val,.val,.rd 0,.ext,.ext,.val,.rd 0,.val,.val,.rd 0,.ext,.ext,.ext,.ext,.fl,.wr] fol (by decide) (by kernel_rfl) ?_
 simp only [push_cast,simprocAttr,U3]
 refine DCall.z (Jm7 _ _ _) ?_
 simp only [push_cast,simprocAttr,U3]
 refine DCall.z (Jv1 v.r (Je0 px v.wd) _) ?_
 simp only [push_cast,simprocAttr,U3]
 refine DCall.z (Jm7 _ _ _) ?_
 simp only [push_cast,simprocAttr,U3]
 refine DCall.z (Jv1 v.u (Je0 py v.wd) _) ?_
 simp only [push_cast,simprocAttr,U3]
 refine DExt.by (by first|rfl|exact (List.append_nil _).symm|(simp only [List.append_assoc,List.cons_append,List.nil_append];rfl)) ?_
 simp only [push_cast,simprocAttr,U3]
 refine DCall.z ((by have h9:=fun M r9 q=>Qd7 r9 0 (v.f 0) (v.f 1) (v.f 2) ((Je1 v.r (Je0 px v.wd)) 0) ((Je1 v.r (Je0 px v.wd)) 1) ((Je1 v.r (Je0 px v.wd)) 2) ((Je1 v.u (Je0 py v.wd)) 0) ((Je1 v.u (Je0 py v.wd)) 1) ((Je1 v.u (Je0 py v.wd)) 2) M q;have e9:([.int .i64 (Jd6 (Jd6 (Jd6 0 (v.f 0)) ((Je1 v.r (Je0 px v.wd)) 0)) ((Je1 v.u (Je0 py v.wd)) 0)),.int .i64 (Jd6 (Jd6 (Jd6 0 (v.f 1)) ((Je1 v.r (Je0 px v.wd)) 1)) ((Je1 v.u (Je0 py v.wd)) 1)),.int .i64 (Jd6 (Jd6 (Jd6 0 (v.f 2)) ((Je1 v.r (Je0 px v.wd)) 2)) ((Je1 v.u (Je0 py v.wd)) 2))]:List CV)=c3C D:=(by rw [hD];rfl);rw [e9] at h9;exact h9 _ _ ⟨.grow,3,by simp only [push_cast,simprocAttr]⟩)) ?_
 simp only [push_cast,simprocAttr,U3]
 apply J0
 have q_1:=or_c (Jb8 D) v.f
 rw [<-hF] at q_1
 refine AW.d [.val,.rd 0,.rd 0,.ext,.val,.rd 0,.ext,.val,.val,.wr] fol U3 (ca2 (Jr5 D) q_1) ?_
 exact AW.ret (hQ _ _ _ (RetP.z hwf Tru))
theorem Qv9 (a:Int)(m:Ja1)(hw:IntKind.i64.wrap (2*a)=2*a):Ctr Tryz.prog 142 [.one (.int .i64 a)] m (.one (.int .i64 (2*a))) m:=by
 refine Ctr.en Tryz.func142 [.tmp 2] 5 fun hwf Q hQ=>?_
 refine AW.c 2 hw Tru ?_
 exact AW.ret (hQ _ _ _ (RetP.z hwf hw))
theorem Vz7 (v:VW)(x y dx dy part:Int)(m:Ja1):Ctr Tryz.prog 59 [.agg (vwC v),.one (.int .i64 x),.one (.int .i64 y),.one (.int .i64 dx),.one (.int .i64 dy),.one (.int .i64 part)] m (.agg (ryC (Vi2 v x y dx dy part))) m:=by
 refine Ctr.en Tryz.func59 [.cell 12 180] 75 fun hwf Q hQ=>?_
 obtain ⟨px,hx⟩:∃ p,rayX v x dx=p:=⟨_,rfl⟩
 obtain ⟨py,hy⟩:∃ p,rayY v y dy=p:=⟨_,rfl⟩
 have hx1:Jh2 (Jf8 (2*Jd6 (ofI x) (Jb9 dx)) (ofI v.w)) (ofI v.h)=px:=hx
 have hy1:Jh2 (Jf8 (ofI v.h) (2*Jd6 (ofI y) (Jb9 dy))) (ofI v.h)=py:=hy
 have b1:=Jc9 (Ja3 (ofI x)+Ja3 (Jb9 dx))
 have b2:=Jc9 (Ja3 (ofI y)+Ja3 (Jb9 dy))
 have w1:IntKind.i64.wrap (2*Jd6 (ofI x) (Jb9 dx))=2*Jd6 (ofI x) (Jb9 dx):=wi (by unfold Jd6;omega)
 have w2:IntKind.i64.wrap (2*Jd6 (ofI y) (Jb9 dy))=2*Jd6 (ofI y) (Jb9 dy):=wi (by unfold Jd6;omega)
 obtain ⟨D,hD⟩:∃ D,D=rayD v px py:=⟨_,rfl⟩
 obtain ⟨F,hF⟩:∃ F,F=orV (Jb8 D) v.f:=⟨_,rfl⟩
 have hv:ryC (Vi2 v x y dx dy part)=c3C v.e++(c3C F++[.int .i64 part]):=by unfold Vi2;rw [hx,hy,<-hD,<-hF];rfl
 rw [hv] at hQ
 have U4:=ca4 @Jy9 @Ja4 hx1 hy1
 refine AW.c 2 U4 Kz5 ?_
 refine AW.d [.val,.ext,.val,.ext,.ext,.ext,.val,.rd 0,.ext,.ext,.val,.ext,.val] fol U4 (ca4 Kz5 Js7 Jp6 (ca3 (Qv9 _ _ w1) Ji7 Jh6)) ?_
 refine AW.c 1 U4 (ca4 Kz5 Js7 Jp6 (ca3 (Qv9 _ _ w2) Ji7 Jh6)) ?_
 have q_2:=Ju1 (Jd9 (Jd9 z0V v.f) (Je1 v.r (Je0 px v.wd))) (Je1 v.u (Je0 py v.wd))
 rw [show Jd9 (Jd9 (Jd9 z0V v.f) (Je1 v.r (Je0 px v.wd))) (Je1 v.u (Je0 py v.wd))=D from hD.symm] at q_2
 refine AW.d [.val,.val,.rd 0,.ext,.val,.rd 0,.val,.val,.rd 0,.ext,.ext,.ext,.val,.rd 0,.val,.val,.rd 0,.ext,.ext,.ext,.fl,.wr] fol U4 (ca4 (Ju1 z0V v.f) Jg6 (Jp8 v.r (Je0 px v.wd)) (ca3 (Ju1 (Jd9 z0V v.f) (Je1 v.r (Je0 px v.wd))) (Jp8 v.u (Je0 py v.wd)) q_2)) ?_
 refine AW.c 1 U4 (Jn1 D) ?_
 refine AW.q fun K J0=>?_
 refine AW.c 1 U4 Tru ?_
 refine AW.condJ rfl [5,6,12,17] [] [(m.length+3,⟨.fix,54,0,0,[.int .i64 (F 0),.int .i64 (F 1),.int .i64 (F 2)]⟩)] (fun h67=>?_) (fun h67=>?_) ?_
 ·have hXe:F=v.f:=by rw [hF];exact if_pos h67
  have f0:F 0=v.f 0:=by rw [hXe]
  have f1:F 1=v.f 1:=by rw [hXe]
  have f2:F 2=v.f 2:=by rw [hXe]
  refine AW.g U4 Tru ?_
  apply Jc2
  try simp only [Jb1,Ja2,push_cast,simprocAttr,U4,f0,f1,f2]
  exact Weak.same (by simp only [KS,simprocAttr,f0,f1,f2]) (by first|rfl|simp only [KS,simprocAttr,f0,f1,f2])
 ·have hXe:F=(Jb8 D):=by rw [hF];exact if_neg (fun q=>by rw [show z3 (Jb8 D)=false from h67] at q;cases q)
  have f0:F 0=(Jb8 D) 0:=by rw [hXe]
  have f1:F 1=(Jb8 D) 1:=by rw [hXe]
  have f2:F 2=(Jb8 D) 2:=by rw [hXe]
  apply AW.z
  apply Jc2
  try simp only [Jb1,Ja2,push_cast,simprocAttr,U4,f0,f1,f2]
  exact Weak.same (by simp only [KS,simprocAttr,f0,f1,f2]) (by first|rfl|simp only [KS,simprocAttr,f0,f1,f2])
 try simp only [Jb1,Ja2,push_cast,simprocAttr,U4]
 apply J0
 refine AW.c 1 U4 Tru ?_
 exact AW.ret (hQ _ _ _ (RetP.z hwf Tru))
noncomputable def Jk2 (u v:Int):V:=v3V (Je0 (Jo0 (Jf8 65536 (Je0 (Jf8 65536 (2*Jb9 u)) (Jf8 65536 (2*Jb9 u))))) (Qg1 v)) (Je0 (Jo0 (Jf8 65536 (Je0 (Jf8 65536 (2*Jb9 u)) (Jf8 65536 (2*Jb9 u))))) (Kb0 v)) (Jf8 65536 (2*Jb9 u))
noncomputable def Jk6 (n:V)(u v:Int):V:=if Je9 (Jb8 (Jd9 (Jk2 u v) n)) n<=0 then n else Jb8 (Jd9 (Jk2 u v) n)
theorem Qf3 (u v:Int)(m:Ja1):Ctr Tryz.prog 197 [.one (.int .i64 u),.one (.int .i64 v)] m (.agg (c3C (Jk2 u v))) m:=by
 refine Ctr.en Tryz.func197 [.cell 4 59] 26 fun hwf Q hQ=>?_
 obtain ⟨z,hz⟩:∃ z,Jf8 65536 (2*Jb9 u)=z:=⟨_,rfl⟩
 have hu:=Jt2 u
 have w1:IntKind.i64.wrap (2*Jb9 u)=2*Jb9 u:=wi (by omega)
 have w2:IntKind.i64.wrap (65536 - 2*Jb9 u)=z:=by
   rw [<-hz];unfold Jf8
   rw [Jc5 (show -2147483648<=(65536:Int)/\(65536:Int)<=2147483648 by omega),Jc5 (show -2147483648<=2*Jb9 u/\2*Jb9 u<=2147483648 by omega),Jc5 (by omega)]
   exact wi (by omega)
 have hv:c3C (Jk2 u v)=[.int .i64 (Je0 (Jo0 (Jf8 65536 (Je0 z z))) (Qg1 v)),.int .i64 (Je0 (Jo0 (Jf8 65536 (Je0 z z))) (Kb0 v)),.int .i64 z]:=by rw [<-hz];rfl
 rw [hv] at hQ
 have U1:=ca2 w1 hz
 refine AW.c 4 U1 (ca4 Jz3 Js6 Jm7 (ca4 Kz4 Qh4 Kx6 Qa7)) ?_
 exact AW.ret (hQ _ _ _ (RetP.z hwf Tru))
theorem Ku6 (u v:Int)(m:Ja1):Ctr Tryz.prog 202 [.one (.int .i64 u),.one (.int .i64 v)] m (.agg (c3C (Jk2 u v))) m:=by
 refine Ctr.en Tryz.func202 [.cell 4 54] 26 fun hwf Q hQ=>?_
 obtain ⟨z,hz⟩:∃ z,Jf8 65536 (2*Jb9 u)=z:=⟨_,rfl⟩
 have hu:=Jt2 u
 have w1:IntKind.i64.wrap (2*Jb9 u)=2*Jb9 u:=wi (by omega)
 have w2:IntKind.i64.wrap (65536 - 2*Jb9 u)=z:=by
   rw [<-hz];unfold Jf8
   rw [Jc5 (show -2147483648<=(65536:Int)/\(65536:Int)<=2147483648 by omega),Jc5 (show -2147483648<=2*Jb9 u/\2*Jb9 u<=2147483648 by omega),Jc5 (by omega)]
   exact wi (by omega)
 have hv:c3C (Jk2 u v)=[.int .i64 (Je0 (Jo0 (Jf8 65536 (Je0 z z))) (Qg1 v)),.int .i64 (Je0 (Jo0 (Jf8 65536 (Je0 z z))) (Kb0 v)),.int .i64 z]:=by rw [<-hz];rfl
 rw [hv] at hQ
 have U2:=ca2 w1 w2
 refine AW.c 4 U2 (ca4 Js7 Jg6 Ji7 (ca3 Kk4 Kt5 Kj5)) ?_
 exact AW.ret (hQ _ _ _ (RetP.z hwf Tru))
theorem Xu6 (n:V)(u v:Int)(m:Ja1)(g:Je9 (Jb8 (Jd9 (Jk2 u v) n)) n<=0):Ctr Tryz.prog 134 [.agg (c3C n),.one (.int .i64 u),.one (.int .i64 v)] m (.agg (c3C (Jk6 n u v))) m:=by
 refine Ctr.en Tryz.func134 [.cell 6 59] 20 fun hwf Q hQ=>?_
 have hv:Jk6 n u v=n:=if_pos g
 rw [hv] at hQ
 have U3:=ca2 @Ja4 g
 refine AW.c 1 U3 Tru ?_
 refine AW.d [.val,.val,.ext,.rd 0,.ext,.ext,.fl,.wr] fol U3 (ca3 (Qf3 u v) (Qg8 (Jk2 u v) n) (Jr5 (Jd9 (Jk2 u v) n))) ?_
 refine AW.q fun K J0=>?_
 refine AW.c 1 U3 (Jg7 (Jb8 (Jd9 (Jk2 u v) n)) n) ?_
 apply AW.y rfl
 refine AW.c 1 U3 Tru ?_
 exact AW.ret (hQ _ _ _ (RetP.z hwf Tru))
theorem Xu7 (n:V)(u v:Int)(m:Ja1)(g:¬Je9 (Jb8 (Jd9 (Jk2 u v) n)) n<=0):Ctr Tryz.prog 134 [.agg (c3C n),.one (.int .i64 u),.one (.int .i64 v)] m (.agg (c3C (Jk6 n u v))) m:=by
 refine Ctr.en Tryz.func134 [.cell 6 59] 20 fun hwf Q hQ=>?_
 have hv:Jk6 n u v=(Jb8 (Jd9 (Jk2 u v) n)):=if_neg g
 rw [hv] at hQ
 have U4:=ca2 @Ja4 g
 refine AW.c 1 U4 Tru ?_
 refine AW.d [.val,.val,.ext,.rd 0,.ext,.ext,.fl,.wr] fol U4 (ca3 (Qf3 u v) (Qg8 (Jk2 u v) n) (Jr5 (Jd9 (Jk2 u v) n))) ?_
 refine AW.q fun K J0=>?_
 refine AW.c 1 U4 (Jg7 (Jb8 (Jd9 (Jk2 u v) n)) n) ?_
 apply AW.x rfl
 apply AW.z
 apply J0
 refine AW.c 1 U4 Tru ?_
 exact AW.ret (hQ _ _ _ (RetP.z hwf Tru))
theorem Qn8 (n:V)(u v:Int)(m:Ja1):Ctr Tryz.prog 134 [.agg (c3C n),.one (.int .i64 u),.one (.int .i64 v)] m (.agg (c3C (Jk6 n u v))) m:=by
 by_cases g:Je9 (Jb8 (Jd9 (Jk2 u v) n)) n<=0
 ·exact Xu6 n u v m g
 exact Xu7 n u v m g
theorem Xd9 (n:V)(u v:Int)(m:Ja1)(g:Je9 (Jb8 (Jd9 (Jk2 u v) n)) n<=0):Ctr Tryz.prog 153 [.agg (c3C n),.one (.int .i64 u),.one (.int .i64 v)] m (.agg (c3C (Jk6 n u v))) m:=by
 refine Ctr.en Tryz.func153 [.cell 6 54] 20 fun hwf Q hQ=>?_
 have hv:Jk6 n u v=n:=if_pos g
 rw [hv] at hQ
 have U5:=ca2 @Ja4 g
 refine AW.c 1 U5 Tru ?_
 refine AW.d [.val,.val,.ext,.rd 0,.ext,.ext,.fl,.wr] fol U5 (ca3 (Ku6 u v) (Ju1 (Jk2 u v) n) (Jn1 (Jd9 (Jk2 u v) n))) ?_
 refine AW.q fun K J0=>?_
 refine AW.c 1 U5 (Je3 (Jb8 (Jd9 (Jk2 u v) n)) n) ?_
 apply AW.y rfl
 refine AW.c 1 U5 Tru ?_
 exact AW.ret (hQ _ _ _ (RetP.z hwf Tru))
theorem Xe0 (n:V)(u v:Int)(m:Ja1)(g:¬Je9 (Jb8 (Jd9 (Jk2 u v) n)) n<=0):Ctr Tryz.prog 153 [.agg (c3C n),.one (.int .i64 u),.one (.int .i64 v)] m (.agg (c3C (Jk6 n u v))) m:=by
 refine Ctr.en Tryz.func153 [.cell 6 54] 20 fun hwf Q hQ=>?_
 have hv:Jk6 n u v=(Jb8 (Jd9 (Jk2 u v) n)):=if_neg g
 rw [hv] at hQ
 have U6:=ca2 @Ja4 g
 refine AW.c 1 U6 Tru ?_
 refine AW.d [.val,.val,.ext,.rd 0,.ext,.ext,.fl,.wr] fol U6 (ca3 (Ku6 u v) (Ju1 (Jk2 u v) n) (Jn1 (Jd9 (Jk2 u v) n))) ?_
 refine AW.q fun K J0=>?_
 refine AW.c 1 U6 (Je3 (Jb8 (Jd9 (Jk2 u v) n)) n) ?_
 apply AW.x rfl
 apply AW.z
 apply J0
 refine AW.c 1 U6 Tru ?_
 exact AW.ret (hQ _ _ _ (RetP.z hwf Tru))
theorem Kv0 (n:V)(u v:Int)(m:Ja1):Ctr Tryz.prog 153 [.agg (c3C n),.one (.int .i64 u),.one (.int .i64 v)] m (.agg (c3C (Jk6 n u v))) m:=by
 by_cases g:Je9 (Jb8 (Jd9 (Jk2 u v) n)) n<=0
 ·exact Xd9 n u v m g
 exact Xe0 n u v m g
def xsU (x:Int)(k:Nat):Int:=bits BinOp.xor .u64 x (x.fdiv (2 ^ min k IntKind.u64.bits))
def Qk1 (x:Int):Int:=xsU (IntKind.u64.wrap (xsU (IntKind.u64.wrap (xsU x 30*13787848793156543929)) 27*10723151780598845931)) 31
def Jt7 (h x:Int):Int:=Qk1 (IntKind.u64.wrap (h+11400714819323198485+x*11400714819323198485))
def Qf2 (a b c d e:Int):Int:=Qk1 (Jt7 (Jt7 (Jt7 (Jt7 (Jt7 5 a) b) c) d) e)
theorem Vv6 (h x:Int):IntKind.u64.wrap (IntKind.u64.wrap (h+11400714819323198485)+IntKind.u64.wrap (x*11400714819323198485))=IntKind.u64.wrap (h+11400714819323198485+x*11400714819323198485):=by
 rw [IntKind.wrap_u64,IntKind.wrap_u64,IntKind.wrap_u64,IntKind.wrap_u64];omega
theorem Xo6 (h x:Int):IntKind.u64.wrap (h+IntKind.u64.wrap (11400714819323198485*IntKind.u64.wrap (x+1)))=IntKind.u64.wrap (h+11400714819323198485+x*11400714819323198485):=by
 rw [IntKind.wrap_u64,IntKind.wrap_u64,IntKind.wrap_u64,IntKind.wrap_u64];omega
theorem Vv7 (h x:Int):Qk1 (IntKind.u64.wrap (h+11400714819323198485+x*11400714819323198485))=Jt7 h x:=rfl
theorem Qw9 (a:Int):Qk1 (IntKind.u64.wrap (IntKind.u64.wrap 11400714819323198490+IntKind.u64.wrap (a*11400714819323198485)))=Jt7 5 a:=by
 have h:=Vv6 5 a
 unfold Jt7
 rw [<-h];rfl
theorem Qx1 (a:Int):Qk1 (IntKind.u64.wrap (11400714819323198490+a*11400714819323198485))=Jt7 5 a:=by
 unfold Jt7;rfl
theorem Vi6 (x:Int)(k:Nat):xsU x k=(bits BinOp.xor .u64 x (x.fdiv (2 ^ min k IntKind.u64.bits))):=rfl
theorem Xs0 (x:Int)(m:Ja1):Ctr Tryz.prog 231 [.one (.int .u64 x)] m (.one (.int .u64 (Qk1 x))) m:=by
 refine Ctr.en Tryz.func231 [.tmp 2] 19 fun hwf Q hQ=>?_
 have hv:Qk1 x=xsU (IntKind.u64.wrap (xsU (IntKind.u64.wrap (xsU x 30*13787848793156543929)) 27*10723151780598845931)) 31:=rfl
 rw [hv] at hQ
 refine AW.c 6 @Vi6 Tru ?_
 exact AW.ret (hQ _ _ _ (RetP.z hwf @Vi6))
theorem Vv5 (x:Int)(m:Ja1):Ctr Tryz.prog 239 [.one (.int .u64 x)] m (.one (.int .u64 (Qk1 x))) m:=by
 refine Ctr.en Tryz.func239 [.tmp 2] 19 fun hwf Q hQ=>?_
 have hv:Qk1 x=xsU (IntKind.u64.wrap (xsU (IntKind.u64.wrap (xsU x 30*13787848793156543929)) 27*10723151780598845931)) 31:=rfl
 rw [hv] at hQ
 refine AW.c 6 @Vi6 Tru ?_
 exact AW.ret (hQ _ _ _ (RetP.z hwf @Vi6))
theorem Xt1 (a b c d e:Int)(r:Nat)(m:Ja1)(hb:∃ k ez v,m[r]?=some ⟨k,22,v,ez,[.int .u64 a,.int .u64 b,.int .u64 c,.int .u64 d,.int .u64 e]⟩/\v=0):Ctr Tryz.prog 188 [.one (.sl r 0 0 5)] m (.one (.int .u64 (Qf2 a b c d e))) m:=by
 refine Ctr.en Tryz.func188 [.tmp 2] 24 fun hwf Q hQ=>?_
 obtain ⟨k0,ez,v,hb,rfl⟩:=hb
 have lb:=Jb2 hb
 have hv:Qf2 a b c d e=Qk1 (Jt7 (Jt7 (Jt7 (Jt7 (Jt7 5 a) b) c) d) e):=rfl
 rw [hv] at hQ
 have w5:IntKind.u64.wrap 5=5:=rfl
 have U1:=ca4 hb (Ja5 hb) w5 (ca4 @Vv6 @Vv7 @Qw9 @Qx1)
 refine AW.c 2 U1 Tru ?_
 refine AW.q fun K J0=>?_
 refine AW.c 1 U1 Tru ?_
 apply AW.b
 refine AW.r 6 ?_
 iterate 5
  refine ARounds.s fun K J1=>?_
  refine AW.c 1 U1 Tru ?_
  refine AW.ifT rfl ?_
  refine AW.q fun K J2=>?_
  apply AW.b
  refine AW.c 1 U1 Tru ?_
  refine AW.g U1 Xs0 ?_
  apply Ja8
  apply J2
  refine AW.g U1 Tru ?_
  apply J1
 refine ARounds.s fun K J1=>?_
 refine AW.c 1 U1 Tru ?_
 refine AW.q fun K J2=>?_
 apply AW.x rfl
 apply AW.v
 apply Jb0
 apply Jb0
 apply Ja6
 apply J0
 refine AW.c 1 U1 Xs0 ?_
 exact AW.ret (hQ _ _ _ (RetP.z hwf U1))
theorem Xc2 (a b c d e:Int)(r:Nat)(m:Ja1)(hb:∃ k ez v,m[r]?=some ⟨k,22,v,ez,[.int .u64 a,.int .u64 b,.int .u64 c,.int .u64 d,.int .u64 e]⟩/\v=0):Ctr Tryz.prog 199 [.one (.sl r 0 0 5)] m (.one (.int .u64 (Qf2 a b c d e))) m:=by
 refine Ctr.en Tryz.func199 [.tmp 2] 25 fun hwf Q hQ=>?_
 obtain ⟨k0,ez,v,hb,rfl⟩:=hb
 have lb:=Jb2 hb
 have hv:Qf2 a b c d e=Qk1 (Jt7 (Jt7 (Jt7 (Jt7 (Jt7 5 a) b) c) d) e):=rfl
 rw [hv] at hQ
 have w5:IntKind.u64.wrap 5=5:=rfl
 have U2:=ca4 hb (Ja5 hb) w5 (ca4 @Xo6 @Vv7 @Qw9 @Qx1)
 refine AW.c 2 U2 Tru ?_
 refine AW.q fun K J0=>?_
 refine AW.c 1 U2 Tru ?_
 apply AW.b
 refine AW.r 6 ?_
 iterate 5
  refine ARounds.s fun K J1=>?_
  refine AW.q fun K J2=>?_
  refine AW.c 1 U2 Tru ?_
  apply AW.y rfl
  apply AW.z
  apply J2
  refine AW.q fun K J2=>?_
  apply AW.b
  refine AW.g U2 Vv5 ?_
  apply Ja8
  apply J2
  refine AW.g U2 Tru ?_
  apply J1
 refine ARounds.s fun K J1=>?_
 refine AW.q fun K J2=>?_
 refine AW.c 1 U2 Tru ?_
 apply AW.x rfl
 apply AW.v
 apply Jb0
 apply Jb0
 apply Ja6
 apply J0
 refine AW.c 1 U2 Vv5 ?_
 exact AW.ret (hQ _ _ _ (RetP.z hwf U2))
def Jn5 (sd a b c:Int):List CV:=[.int .u64 sd,.int .i64 a,.int .i64 b,.int .i64 c]
def Jw6 (sd a b c i:Int):Int:=Qf2 sd (IntKind.u64.wrap a) (IntKind.u64.wrap b) (IntKind.u64.wrap c) (IntKind.u64.wrap i)
theorem Kn1 (sd a b c:Int):Jn5 sd a b c=([.int .u64 sd,.int .i64 a,.int .i64 b,.int .i64 c]):=rfl
theorem Vx7 (sd a b c i:Int)(m:Ja1):Ctr Tryz.prog 112 [.agg (Jn5 sd a b c),.one (.int .i64 i)] m (.one (.int .u64 (Jw6 sd a b c i))) m:=by
 refine Ctr.en Tryz.func112 [.tmp 4] 20 fun hwf Q hQ=>?_
 have hv:Jw6 sd a b c i=Qf2 sd (IntKind.u64.wrap a) (IntKind.u64.wrap b) (IntKind.u64.wrap c) (IntKind.u64.wrap i):=rfl
 rw [hv] at hQ
 refine AW.sr 2 fun K J0=>?_
 simp only [push_cast,simprocAttr,Jn5]
 refine CThen.by (Xt1 sd (IntKind.u64.wrap a) (IntKind.u64.wrap b) (IntKind.u64.wrap c) (IntKind.u64.wrap i) _ _ ⟨.grow,1,0,by simp only [push_cast,simprocAttr],rfl⟩) ?_
 simp only [push_cast,simprocAttr,Jn5]
 apply J0
 exact AW.ret (hQ _ _ _ (RetP.z hwf @Kn1))
theorem Va2 (sd a b c i:Int)(m:Ja1):Ctr Tryz.prog 138 [.agg (Jn5 sd a b c),.one (.int .i64 i)] m (.one (.int .u64 (Jw6 sd a b c i))) m:=by
 refine Ctr.en Tryz.func138 [.tmp 4] 20 fun hwf Q hQ=>?_
 have hv:Jw6 sd a b c i=Qf2 sd (IntKind.u64.wrap a) (IntKind.u64.wrap b) (IntKind.u64.wrap c) (IntKind.u64.wrap i):=rfl
 rw [hv] at hQ
 refine AW.sr 2 fun K J0=>?_
 simp only [push_cast,simprocAttr,Jn5]
 refine CThen.by (Xc2 sd (IntKind.u64.wrap a) (IntKind.u64.wrap b) (IntKind.u64.wrap c) (IntKind.u64.wrap i) _ _ ⟨.grow,1,0,by simp only [push_cast,simprocAttr],rfl⟩) ?_
 simp only [push_cast,simprocAttr,Jn5]
 apply J0
 exact AW.ret (hQ _ _ _ (RetP.z hwf @Kn1))
theorem mix_b (x:Int):0<=Qk1 x/\Qk1 x<18446744073709551616:=by
 unfold Qk1 xsU bits
 rw [IntKind.wrap_u64];omega
theorem Qo3 (sd a b c i:Int):0<=Jw6 sd a b c i/\Jw6 sd a b c i<18446744073709551616:=mix_b _
def Qg0 (sd a b c i:Int):Int:=Jw6 sd a b c i / 281474976710656
theorem Vf5 (sd a b c i:Int)(m:Ja1):Ctr Tryz.prog 47 [.agg (Jn5 sd a b c),.one (.int .i64 i)] m (.one (.int .i64 (Qg0 sd a b c i))) m:=by
 refine Ctr.en Tryz.func47 [.tmp 4] 10 fun hwf Q hQ=>?_
 obtain ⟨z,hz⟩:∃ z,Jw6 sd a b c i=z:=⟨_,rfl⟩
 have hb:=Qo3 sd a b c i
 rw [hz] at hb
 have hd:Qg0 sd a b c i=z / 281474976710656:=by unfold Qg0;rw [hz]
 rw [hd] at hQ
 have k1:z.fdiv (2 ^ min 48 IntKind.u64.bits)=z / 281474976710656:=Int.fdiv_eq_ediv_of_nonneg z (by decide)
 have k2:z.tdiv 281474976710656=z / 281474976710656:=Int.tdiv_eq_ediv_of_nonneg hb.1
 have k3:IntKind.u64.wrap (z / 281474976710656)=z / 281474976710656:=by rw [IntKind.wrap_u64];omega
 have k4:IntKind.i64.wrap (z / 281474976710656)=z / 281474976710656:=wi (by omega)
 have U1:=ca4 @Kn1 hz k1 (ca3 k2 k3 k4)
 refine AW.c 2 U1 (Vx7 sd a b c i) ?_
 exact AW.ret (hQ _ _ _ (RetP.z hwf U1))
theorem Qe7 (sd a b c i:Int)(m:Ja1):Ctr Tryz.prog 57 [.agg (Jn5 sd a b c),.one (.int .i64 i)] m (.one (.int .i64 (Qg0 sd a b c i))) m:=by
 refine Ctr.en Tryz.func57 [.tmp 4] 10 fun hwf Q hQ=>?_
 obtain ⟨z,hz⟩:∃ z,Jw6 sd a b c i=z:=⟨_,rfl⟩
 have hb:=Qo3 sd a b c i
 rw [hz] at hb
 have hd:Qg0 sd a b c i=z / 281474976710656:=by unfold Qg0;rw [hz]
 rw [hd] at hQ
 have k1:z.fdiv (2 ^ min 48 IntKind.u64.bits)=z / 281474976710656:=Int.fdiv_eq_ediv_of_nonneg z (by decide)
 have k2:z.tdiv 281474976710656=z / 281474976710656:=Int.tdiv_eq_ediv_of_nonneg hb.1
 have k3:IntKind.u64.wrap (z / 281474976710656)=z / 281474976710656:=by rw [IntKind.wrap_u64];omega
 have k4:IntKind.i64.wrap (z / 281474976710656)=z / 281474976710656:=wi (by omega)
 have U2:=ca4 @Kn1 hz k1 (ca3 k2 k3 k4)
 refine AW.c 2 U2 (Va2 sd a b c i) ?_
 exact AW.ret (hQ _ _ _ (RetP.z hwf U2))
structure PixE (v:VW)(p:V)(Z A B X Y:Int):Prop where
 hZ:Je0 (Je9 (Jb4 p v.e) v.f) v.wd=Z
 hA:Je0 (Jh2 (Je9 (Jb4 p v.e) v.r) Z) (ofI v.h)=A
 hB:Je0 (Jh2 (Je9 (Jb4 p v.e) v.u) Z) (ofI v.h)=B
 hX:Ja3 (Jh2 (Jd6 A (ofI v.w)) 131072) / 65536=X
 hY:Ja3 (Jh2 (Jf8 (ofI v.h) B) 131072) / 65536=Y
end Go.Proofs.YtaannomfigammaaGreat
