/- Walks and facts of this seat's program over abstract states, printed by programs of mine; no conditions but those that each theorem names. -/
import Derived.Test.YtaannomfigammaaGreatM5
set_option linter.unusedSimpArgs false
set_option linter.unusedVariables false
set_option maxRecDepth 100000
set_option maxHeartbeats 4000000
namespace Go.Proofs.YtaannomfigammaaGreat
open Go Go.Eng
def Je2 (a b:V):V:=fun k=>Je0 (a k) (b k)
def Jk5 (a:V)(n:Int):V:=fun k=>if n<1 then 0 else Jh2 (a k) (ofI n)
theorem Ve3 (f:Int->Int->Int)(g:Nat)(a b:V)(m:Ja1)(hf:∀ p q L,Ctr Tryz.prog g [.one (.int .i64 p),.one (.int .i64 q)] (m++L) (.one (.int .i64 (f p q))) (m++L)):Ctr Tryz.prog 129 [.agg (c3C a),.agg (c3C b),.one (.fn g [])] m (.agg (c3C (fun k=>f (a k) (b k)))) m:=by
 refine Ctr.en Tryz.func129 [.cell 6 42] 26 fun hwf Q hQ=>?_
 refine AW.sr 1 fun K J0=>?_
 simp only [push_cast,simprocAttr,c3C,Jm4]
 apply J0
 refine AW.q fun K J0=>?_
 refine AW.draw [.val,.val,.rd 0,.val,.rd 0,.ext,.val,.val,.rd 0,.val,.rd 0,.ext,.val,.val,.rd 0,.val,.rd 0,.ext,.val,.wr] fol (by decide) (by kernel_rfl) ?_
 iterate 3
  simp only [push_cast,simprocAttr,c3C,Jm4]
  refine DCall.z (hf _ _ _) ?_
 simp only [push_cast,simprocAttr,c3C,Jm4]
 apply J0
 exact AW.ret (hQ _ _ _ (RetP.z hwf Tru))
theorem Qm6 (a b:V)(m:Ja1):Ctr Tryz.prog 51 [.agg (c3C a),.agg (c3C b)] m (.agg (c3C (Jd9 a b))) m:=by
 refine Ctr.en Tryz.func51 [.cell 4 42] 8 fun hwf Q hQ=>?_
 refine AW.c 2 @Ja4 (Ve3 Jd6 117 a b _ (fun p q L=>Jz2 p q _)) ?_
 exact AW.ret (hQ _ _ _ (RetP.z hwf Tru))
theorem Kn6 (a b:V)(m:Ja1):Ctr Tryz.prog 52 [.agg (c3C a),.agg (c3C b)] m (.agg (c3C (Je2 a b))) m:=by
 refine Ctr.en Tryz.func52 [.cell 4 42] 8 fun hwf Q hQ=>?_
 refine AW.c 2 @Ja4 (Ve3 Je0 121 a b _ (fun p q L=>Jm7 p q _)) ?_
 exact AW.ret (hQ _ _ _ (RetP.z hwf Tru))
theorem Kw2 (x:Int)(m:Ja1):Ctr Tryz.prog 33 [.one (.int .i64 x)] m (.agg (c3C (fun _=>x))) m:=by
 refine Ctr.en Tryz.func33 [.cell 2 42] 7 fun hwf Q hQ=>?_
 refine AW.c 2 @Ja4 Tru ?_
 exact AW.ret (hQ _ _ _ (RetP.z hwf Tru))
theorem Qm0 (a:V)(x:Int)(m:Ja1):Ctr Tryz.prog 133 [.agg (c3C a),.one (.int .i64 x)] m (.agg (c3C (Je1 a x))) m:=by
 refine Ctr.en Tryz.func133 [.cell 4 42] 9 fun hwf Q hQ=>?_
 refine AW.c 1 @Ja4 Tru ?_
 refine AW.d [.rd 0,.val,.ext,.ext,.wr] fol @Ja4 (ca2 (Kw2 x) (Kn6 a (fun _=>x))) ?_
 exact AW.ret (hQ _ _ _ (RetP.z hwf Tru))
theorem Xh3 (a:V)(n:Int)(m:Ja1)(g:n<1):Ctr Tryz.prog 66 [.agg (c3C a),.one (.int .i64 n)] m (.agg (c3C (Jk5 a n))) m:=by
 refine Ctr.en Tryz.func66 [.cell 4 42] 24 fun hwf Q hQ=>?_
 have hv:c3C (Jk5 a n)=[.int .i64 0,.int .i64 0,.int .i64 0]:=by unfold c3C Jk5;simp only [g,if_true]
 rw [hv] at hQ
 have U1:=ca2 @Ja4 g
 refine AW.c 1 U1 Tru ?_
 refine AW.q fun K J0=>?_
 refine AW.c 1 U1 Tru ?_
 apply AW.y rfl
 refine AW.c 1 U1 Tru ?_
 exact AW.ret (hQ _ _ _ (RetP.z hwf Tru))
theorem Vn0 (a:V)(n:Int)(m:Ja1)(g:n<1):Ctr Tryz.prog 67 [.agg (c3C a),.one (.int .i64 n)] m (.agg (c3C (Jk5 a n))) m:=by
 refine Ctr.en Tryz.func67 [.cell 4 24] 23 fun hwf Q hQ=>?_
 have hv:c3C (Jk5 a n)=[.int .i64 0,.int .i64 0,.int .i64 0]:=by unfold c3C Jk5;simp only [g,if_true]
 rw [hv] at hQ
 have U2:=ca2 @Ja4 g
 refine AW.c 1 U2 Tru ?_
 refine AW.q fun K J0=>?_
 refine AW.c 1 U2 Tru ?_
 apply AW.y rfl
 refine AW.c 1 U2 Tru ?_
 exact AW.ret (hQ _ _ _ (RetP.z hwf Tru))
theorem Xh4 (a:V)(n:Int)(m:Ja1)(g:¬n<1):Ctr Tryz.prog 66 [.agg (c3C a),.one (.int .i64 n)] m (.agg (c3C (Jk5 a n))) m:=by
 refine Ctr.en Tryz.func66 [.cell 4 42] 24 fun hwf Q hQ=>?_
 have hv:c3C (Jk5 a n)=[.int .i64 (Jh2 (a 0) (ofI n)),.int .i64 (Jh2 (a 1) (ofI n)),.int .i64 (Jh2 (a 2) (ofI n))]:=by unfold c3C Jk5;simp only [g,if_false]
 rw [hv] at hQ
 have U3:=ca2 @Ja4 g
 refine AW.c 1 U3 Tru ?_
 refine AW.q fun K J0=>?_
 refine AW.c 1 U3 Tru ?_
 apply AW.x rfl
 apply AW.z
 apply J0
 refine AW.c 1 U3 Xn2 ?_
 refine AW.d [.val,.rd 0,.val,.ext,.val,.rd 0,.val,.ext,.val,.rd 0,.val,.ext,.val,.wr] fol U3 Jr4 ?_
 exact AW.ret (hQ _ _ _ (RetP.z hwf Tru))
theorem Vn1 (a:V)(n:Int)(m:Ja1)(g:¬n<1):Ctr Tryz.prog 67 [.agg (c3C a),.one (.int .i64 n)] m (.agg (c3C (Jk5 a n))) m:=by
 refine Ctr.en Tryz.func67 [.cell 4 24] 23 fun hwf Q hQ=>?_
 have hv:c3C (Jk5 a n)=[.int .i64 (Jh2 (a 0) (ofI n)),.int .i64 (Jh2 (a 1) (ofI n)),.int .i64 (Jh2 (a 2) (ofI n))]:=by unfold c3C Jk5;simp only [g,if_false]
 rw [hv] at hQ
 have U4:=ca2 @Ja4 g
 refine AW.c 1 U4 Tru ?_
 refine AW.q fun K J0=>?_
 refine AW.c 1 U4 Tru ?_
 apply AW.x rfl
 apply AW.z
 apply J0
 refine AW.c 1 U4 Tru ?_
 refine AW.q fun K J0=>?_
 refine AW.c 1 U4 Tru ?_
 apply AW.b
 refine AW.r 4 ?_
 refine ARounds.s fun K J1=>?_
 refine AW.q fun K J2=>?_
 refine AW.c 1 U4 Tru ?_
 apply AW.y rfl
 apply AW.z
 apply J2
 refine AW.q fun K J2=>?_
 apply AW.b
 refine AW.e [.val,.val,.val,.rd 0,.val,.ext,.ext,.val,.wr] fol U4 (ca2 Kz5 Jh6) ?_
 apply Ja8
 apply J2
 refine AW.g U4 Tru ?_
 apply J1
 refine ARounds.s fun K J1=>?_
 refine AW.q fun K J2=>?_
 refine AW.c 1 U4 Tru ?_
 apply AW.y rfl
 apply AW.z
 apply J2
 refine AW.q fun K J2=>?_
 apply AW.b
 refine AW.e [.val,.val,.val,.rd 0,.val,.ext,.ext,.val,.wr] fol U4 (ca2 Kz5 Jh6) ?_
 apply Ja8
 apply J2
 refine AW.g U4 Tru ?_
 apply J1
 refine ARounds.s fun K J1=>?_
 refine AW.q fun K J2=>?_
 refine AW.c 1 U4 Tru ?_
 apply AW.y rfl
 apply AW.z
 apply J2
 refine AW.q fun K J2=>?_
 apply AW.b
 refine AW.e [.val,.val,.val,.rd 0,.val,.ext,.ext,.val,.wr] fol U4 (ca2 Kz5 Jh6) ?_
 apply Ja8
 apply J2
 refine AW.g U4 Tru ?_
 apply J1
 refine ARounds.s fun K J1=>?_
 refine AW.q fun K J2=>?_
 refine AW.c 1 U4 Tru ?_
 apply AW.x rfl
 apply AW.v
 apply Jb0
 apply Jb0
 apply Ja6
 apply J0
 refine AW.c 1 U4 Tru ?_
 exact AW.ret (hQ _ _ _ (RetP.z hwf Tru))
theorem Xh5 (a:V)(n:Int)(m:Ja1):Ctr Tryz.prog 66 [.agg (c3C a),.one (.int .i64 n)] m (.agg (c3C (Jk5 a n))) m:=by
 by_cases g:n<1
 ·exact Xh3 a n m g
 exact Xh4 a n m g
theorem Vn2 (a:V)(n:Int)(m:Ja1):Ctr Tryz.prog 67 [.agg (c3C a),.one (.int .i64 n)] m (.agg (c3C (Jk5 a n))) m:=by
 by_cases g:n<1
 ·exact Vn0 a n m g
 exact Vn1 a n m g
theorem Ku5 (a b:V)(m:Ja1):Ctr Tryz.prog 61 [.agg (c3C a),.agg (c3C b)] m (.agg (c3C (Jd9 a b))) m:=by
 refine Ctr.en Tryz.func61 [.cell 4 24] 21 fun hwf Q hQ=>?_
 refine AW.c 2 @Ja4 Tru ?_
 refine AW.q fun K J0=>?_
 refine AW.c 1 @Ja4 Tru ?_
 apply AW.b
 refine AW.r 4 ?_
 refine ARounds.s fun K J1=>?_
 refine AW.q fun K J2=>?_
 refine AW.c 1 @Ja4 Tru ?_
 apply AW.y rfl
 apply AW.z
 apply J2
 refine AW.q fun K J2=>?_
 apply AW.b
 refine AW.e [.val,.val,.val,.rd 0,.val,.val,.rd 0,.ext,.val,.wr] fol @Ja4 Jp6 ?_
 apply Ja8
 apply J2
 refine AW.g @Ja4 Tru ?_
 apply J1
 refine ARounds.s fun K J1=>?_
 refine AW.q fun K J2=>?_
 refine AW.c 1 @Ja4 Tru ?_
 apply AW.y rfl
 apply AW.z
 apply J2
 refine AW.q fun K J2=>?_
 apply AW.b
 refine AW.e [.val,.val,.val,.rd 0,.val,.val,.rd 0,.ext,.val,.wr] fol @Ja4 Jp6 ?_
 apply Ja8
 apply J2
 refine AW.g @Ja4 Tru ?_
 apply J1
 refine ARounds.s fun K J1=>?_
 refine AW.q fun K J2=>?_
 refine AW.c 1 @Ja4 Tru ?_
 apply AW.y rfl
 apply AW.z
 apply J2
 refine AW.q fun K J2=>?_
 apply AW.b
 refine AW.e [.val,.val,.val,.rd 0,.val,.val,.rd 0,.ext,.val,.wr] fol @Ja4 Jp6 ?_
 apply Ja8
 apply J2
 refine AW.g @Ja4 Tru ?_
 apply J1
 refine ARounds.s fun K J1=>?_
 refine AW.q fun K J2=>?_
 refine AW.c 1 @Ja4 Tru ?_
 apply AW.x rfl
 apply AW.v
 apply Jb0
 apply Jb0
 apply Ja6
 apply J0
 refine AW.c 1 @Ja4 Tru ?_
 exact AW.ret (hQ _ _ _ (RetP.z hwf Tru))
theorem Ka0 (a b:V)(m:Ja1):Ctr Tryz.prog 62 [.agg (c3C a),.agg (c3C b)] m (.agg (c3C (Je2 a b))) m:=by
 refine Ctr.en Tryz.func62 [.cell 4 24] 21 fun hwf Q hQ=>?_
 refine AW.c 2 @Ja4 Tru ?_
 refine AW.q fun K J0=>?_
 refine AW.c 1 @Ja4 Tru ?_
 apply AW.b
 refine AW.r 4 ?_
 refine ARounds.s fun K J1=>?_
 refine AW.q fun K J2=>?_
 refine AW.c 1 @Ja4 Tru ?_
 apply AW.y rfl
 apply AW.z
 apply J2
 refine AW.q fun K J2=>?_
 apply AW.b
 refine AW.e [.val,.val,.val,.rd 0,.val,.val,.rd 0,.ext,.val,.wr] fol @Ja4 Jg6 ?_
 apply Ja8
 apply J2
 refine AW.g @Ja4 Tru ?_
 apply J1
 refine ARounds.s fun K J1=>?_
 refine AW.q fun K J2=>?_
 refine AW.c 1 @Ja4 Tru ?_
 apply AW.y rfl
 apply AW.z
 apply J2
 refine AW.q fun K J2=>?_
 apply AW.b
 refine AW.e [.val,.val,.val,.rd 0,.val,.val,.rd 0,.ext,.val,.wr] fol @Ja4 Jg6 ?_
 apply Ja8
 apply J2
 refine AW.g @Ja4 Tru ?_
 apply J1
 refine ARounds.s fun K J1=>?_
 refine AW.q fun K J2=>?_
 refine AW.c 1 @Ja4 Tru ?_
 apply AW.y rfl
 apply AW.z
 apply J2
 refine AW.q fun K J2=>?_
 apply AW.b
 refine AW.e [.val,.val,.val,.rd 0,.val,.val,.rd 0,.ext,.val,.wr] fol @Ja4 Jg6 ?_
 apply Ja8
 apply J2
 refine AW.g @Ja4 Tru ?_
 apply J1
 refine ARounds.s fun K J1=>?_
 refine AW.q fun K J2=>?_
 refine AW.c 1 @Ja4 Tru ?_
 apply AW.x rfl
 apply AW.v
 apply Jb0
 apply Jb0
 apply Ja6
 apply J0
 refine AW.c 1 @Ja4 Tru ?_
 exact AW.ret (hQ _ _ _ (RetP.z hwf Tru))
theorem Kz7 (a:V)(x:Int)(m:Ja1):Ctr Tryz.prog 152 [.agg (c3C a),.one (.int .i64 x)] m (.agg (c3C (Je1 a x))) m:=by
 refine Ctr.en Tryz.func152 [.cell 4 24] 11 fun hwf Q hQ=>?_
 refine AW.c 2 @Ja4 (Ka0 a (fun _=>x)) ?_
 exact AW.ret (hQ _ _ _ (RetP.z hwf Tru))
noncomputable def Jr6 (p n q:V):Int:=if Je9 (Jb8 (Jb4 q p)) n<=0 then 0 else Jh2 (Je9 (Jb8 (Jb4 q p)) n) (Jd6 65536 (Je0 (Kb2 (Jb4 q p)) (Kb2 (Jb4 q p))))
theorem Xd6 (p n q:V)(m:Ja1)(g:Je9 (Jb8 (Jb4 q p)) n<=0):Ctr Tryz.prog 132 [.agg (c3C p),.agg (c3C n),.agg (c3C q)] m (.tup [(true,c3C (Jb8 (Jb4 q p))),(false,[.int .i64 (Kb2 (Jb4 q p))]),(false,[.int .i64 (Jr6 p n q)])]) m:=by
 refine Ctr.en Tryz.func132 [.cell 6 59,.tmp 7,.tmp 8] 35 fun hwf Q hQ=>?_
 have hv:Jr6 p n q=0:=if_pos g
 rw [hv] at hQ
 have U1:=ca2 @Ja4 g
 refine AW.c 5 U1 (ca4 (Jk4 q p) (Vp7 (Jb4 q p)) (Jr5 (Jb4 q p)) (Jg7 (Jb8 (Jb4 q p)) n)) ?_
 refine AW.q fun K J0=>?_
 refine AW.c 1 U1 Tru ?_
 apply AW.y rfl
 refine AW.c 1 U1 Tru ?_
 exact AW.ret (hQ _ _ _ (RetP.z hwf Tru))
theorem Vm4 (p n q:V)(m:Ja1)(g:Je9 (Jb8 (Jb4 q p)) n<=0):Ctr Tryz.prog 151 [.agg (c3C p),.agg (c3C n),.agg (c3C q)] m (.tup [(true,c3C (Jb8 (Jb4 q p))),(false,[.int .i64 (Kb2 (Jb4 q p))]),(false,[.int .i64 (Jr6 p n q)])]) m:=by
 refine Ctr.en Tryz.func151 [.cell 6 54,.tmp 7,.tmp 8] 35 fun hwf Q hQ=>?_
 have hv:Jr6 p n q=0:=if_pos g
 rw [hv] at hQ
 have U2:=ca2 @Ja4 g
 refine AW.c 5 U2 (ca4 (Jg3 q p) (Qj0 (Jb4 q p)) (Jn1 (Jb4 q p)) (Je3 (Jb8 (Jb4 q p)) n)) ?_
 refine AW.q fun K J0=>?_
 refine AW.c 1 U2 Tru ?_
 apply AW.y rfl
 refine AW.c 1 U2 Tru ?_
 exact AW.ret (hQ _ _ _ (RetP.z hwf Tru))
theorem Xd7 (p n q:V)(m:Ja1)(g:¬Je9 (Jb8 (Jb4 q p)) n<=0):Ctr Tryz.prog 132 [.agg (c3C p),.agg (c3C n),.agg (c3C q)] m (.tup [(true,c3C (Jb8 (Jb4 q p))),(false,[.int .i64 (Kb2 (Jb4 q p))]),(false,[.int .i64 (Jr6 p n q)])]) m:=by
 refine Ctr.en Tryz.func132 [.cell 6 59,.tmp 7,.tmp 8] 35 fun hwf Q hQ=>?_
 have hv:Jr6 p n q=Jh2 (Je9 (Jb8 (Jb4 q p)) n) (Jd6 65536 (Je0 (Kb2 (Jb4 q p)) (Kb2 (Jb4 q p)))):=if_neg g
 rw [hv] at hQ
 have U3:=ca2 @Ja4 g
 refine AW.c 5 U3 (ca4 (Jk4 q p) (Vp7 (Jb4 q p)) (Jr5 (Jb4 q p)) (Jg7 (Jb8 (Jb4 q p)) n)) ?_
 refine AW.q fun K J0=>?_
 refine AW.c 1 U3 Tru ?_
 apply AW.x rfl
 apply AW.z
 apply J0
 refine AW.d [.rd 0,.val,.val,.val,.val,.ext,.ext,.ext,.wr,.val,.val] fol U3 (ca3 Jm7 Jz2 Jr4) ?_
 exact AW.ret (hQ _ _ _ (RetP.z hwf Tru))
theorem Vm5 (p n q:V)(m:Ja1)(g:¬Je9 (Jb8 (Jb4 q p)) n<=0):Ctr Tryz.prog 151 [.agg (c3C p),.agg (c3C n),.agg (c3C q)] m (.tup [(true,c3C (Jb8 (Jb4 q p))),(false,[.int .i64 (Kb2 (Jb4 q p))]),(false,[.int .i64 (Jr6 p n q)])]) m:=by
 refine Ctr.en Tryz.func151 [.cell 6 54,.tmp 7,.tmp 8] 35 fun hwf Q hQ=>?_
 have hv:Jr6 p n q=Jh2 (Je9 (Jb8 (Jb4 q p)) n) (Jd6 65536 (Je0 (Kb2 (Jb4 q p)) (Kb2 (Jb4 q p)))):=if_neg g
 rw [hv] at hQ
 have U4:=ca2 @Ja4 g
 refine AW.c 5 U4 (ca4 (Jg3 q p) (Qj0 (Jb4 q p)) (Jn1 (Jb4 q p)) (Je3 (Jb8 (Jb4 q p)) n)) ?_
 refine AW.q fun K J0=>?_
 refine AW.c 1 U4 Tru ?_
 apply AW.x rfl
 apply AW.z
 apply J0
 refine AW.d [.rd 0,.val,.val,.val,.val,.ext,.ext,.ext,.wr,.val,.val] fol U4 (ca3 Jg6 Jp6 Jh6) ?_
 exact AW.ret (hQ _ _ _ (RetP.z hwf Tru))
theorem Xd8 (p n q:V)(m:Ja1):Ctr Tryz.prog 132 [.agg (c3C p),.agg (c3C n),.agg (c3C q)] m (.tup [(true,c3C (Jb8 (Jb4 q p))),(false,[.int .i64 (Kb2 (Jb4 q p))]),(false,[.int .i64 (Jr6 p n q)])]) m:=by
 by_cases g:Je9 (Jb8 (Jb4 q p)) n<=0
 ·exact Xd6 p n q m g
 exact Xd7 p n q m g
theorem Vm6 (p n q:V)(m:Ja1):Ctr Tryz.prog 151 [.agg (c3C p),.agg (c3C n),.agg (c3C q)] m (.tup [(true,c3C (Jb8 (Jb4 q p))),(false,[.int .i64 (Kb2 (Jb4 q p))]),(false,[.int .i64 (Jr6 p n q)])]) m:=by
 by_cases g:Je9 (Jb8 (Jb4 q p)) n<=0
 ·exact Vm4 p n q m g
 exact Vm5 p n q m g
def Jo9 (sd a b c i n:Int):Int:=if n<1 then 0 else Jw6 sd a b c i / 2%n
theorem Xk3 (sd a b c i n:Int)(m:Ja1)(g:n<1):Ctr Tryz.prog 130 [.agg (Jn5 sd a b c),.one (.int .i64 i),.one (.int .i64 n)] m (.one (.int .i64 (Jo9 sd a b c i n))) m:=by
 refine Ctr.en Tryz.func130 [.tmp 6] 17 fun hwf Q hQ=>?_
 have hv:Jo9 sd a b c i n=0:=if_pos g
 rw [hv] at hQ
 refine AW.c 1 g Tru ?_
 refine AW.q fun K J0=>?_
 refine AW.c 1 g Tru ?_
 apply AW.y rfl
 refine AW.c 1 g Tru ?_
 exact AW.ret (hQ _ _ _ (RetP.z hwf g))
theorem Xk4 (sd a b c i n:Int)(m:Ja1)(g:¬n<1)(hn:n<=1000000000):Ctr Tryz.prog 130 [.agg (Jn5 sd a b c),.one (.int .i64 i),.one (.int .i64 n)] m (.one (.int .i64 (Jo9 sd a b c i n))) m:=by
 refine Ctr.en Tryz.func130 [.tmp 6] 17 fun hwf Q hQ=>?_
 obtain ⟨z,hz⟩:∃ z,Jw6 sd a b c i=z:=⟨_,rfl⟩
 have hb:=Qo3 sd a b c i
 rw [hz] at hb
 have hv:Jo9 sd a b c i n=z / 2%n:=by unfold Jo9;rw [if_neg g,hz]
 rw [hv] at hQ
 have m1:=Int.emod_nonneg (z / 2) (show n≠0 by omega)
 have m2:=Int.emod_lt_of_pos (z / 2) (show 0<n by omega)
 have k1:z.fdiv (2 ^ min 1 IntKind.u64.bits)=z / 2:=Int.fdiv_eq_ediv_of_nonneg z (by decide)
 have k2:z.tdiv 2=z / 2:=Int.tdiv_eq_ediv_of_nonneg hb.1
 have k3:IntKind.u64.wrap (z / 2)=z / 2:=by rw [IntKind.wrap_u64];omega
 have k4:IntKind.u64.wrap n=n:=by rw [IntKind.wrap_u64];omega
 have k5:(z / 2).tmod n=z / 2%n:=Int.tmod_eq_emod_of_nonneg (by omega)
 have k6:IntKind.u64.wrap (z / 2%n)=z / 2%n:=by rw [IntKind.wrap_u64];omega
 have k7:IntKind.i64.wrap (z / 2%n)=z / 2%n:=wi (by omega)
 have k8:¬n=0:=by omega
 have k9:(n ==0)=false:=by simp;omega
 have U1:=ca4 @Kn1 g hz (ca4 k1 k2 k3 (ca4 k4 k5 k6 (ca3 k7 k8 k9)))
 refine AW.c 1 U1 Tru ?_
 refine AW.q fun K J0=>?_
 refine AW.c 1 U1 Tru ?_
 apply AW.x rfl
 apply AW.z
 apply J0
 refine AW.c 1 U1 (Vx7 sd a b c i) ?_
 exact AW.ret (hQ _ _ _ (RetP.z hwf U1))
theorem Xk5 (sd a b c i n:Int)(m:Ja1)(hn:n<=1000000000):Ctr Tryz.prog 130 [.agg (Jn5 sd a b c),.one (.int .i64 i),.one (.int .i64 n)] m (.one (.int .i64 (Jo9 sd a b c i n))) m:=by
 by_cases g:n<1
 ·exact Xk3 sd a b c i n m g
 exact Xk4 sd a b c i n m g hn
theorem Vn3 (sd a b c i n:Int)(m:Ja1)(g:n<1):Ctr Tryz.prog 149 [.agg (Jn5 sd a b c),.one (.int .i64 i),.one (.int .i64 n)] m (.one (.int .i64 (Jo9 sd a b c i n))) m:=by
 refine Ctr.en Tryz.func149 [.tmp 6] 17 fun hwf Q hQ=>?_
 have hv:Jo9 sd a b c i n=0:=if_pos g
 rw [hv] at hQ
 refine AW.c 1 g Tru ?_
 refine AW.q fun K J0=>?_
 refine AW.c 1 g Tru ?_
 apply AW.y rfl
 refine AW.c 1 g Tru ?_
 exact AW.ret (hQ _ _ _ (RetP.z hwf g))
theorem Vn4 (sd a b c i n:Int)(m:Ja1)(g:¬n<1)(hn:n<=1000000000):Ctr Tryz.prog 149 [.agg (Jn5 sd a b c),.one (.int .i64 i),.one (.int .i64 n)] m (.one (.int .i64 (Jo9 sd a b c i n))) m:=by
 refine Ctr.en Tryz.func149 [.tmp 6] 17 fun hwf Q hQ=>?_
 obtain ⟨z,hz⟩:∃ z,Jw6 sd a b c i=z:=⟨_,rfl⟩
 have hb:=Qo3 sd a b c i
 rw [hz] at hb
 have hv:Jo9 sd a b c i n=z / 2%n:=by unfold Jo9;rw [if_neg g,hz]
 rw [hv] at hQ
 have m1:=Int.emod_nonneg (z / 2) (show n≠0 by omega)
 have m2:=Int.emod_lt_of_pos (z / 2) (show 0<n by omega)
 have k1:z.fdiv (2 ^ min 1 IntKind.u64.bits)=z / 2:=Int.fdiv_eq_ediv_of_nonneg z (by decide)
 have k2:z.tdiv 2=z / 2:=Int.tdiv_eq_ediv_of_nonneg hb.1
 have k3:IntKind.u64.wrap (z / 2)=z / 2:=by rw [IntKind.wrap_u64];omega
 have k4:IntKind.u64.wrap n=n:=by rw [IntKind.wrap_u64];omega
 have k5:(z / 2).tmod n=z / 2%n:=Int.tmod_eq_emod_of_nonneg (by omega)
 have k6:IntKind.u64.wrap (z / 2%n)=z / 2%n:=by rw [IntKind.wrap_u64];omega
 have k7:IntKind.i64.wrap (z / 2%n)=z / 2%n:=wi (by omega)
 have k8:¬n=0:=by omega
 have k9:(n ==0)=false:=by simp;omega
 have U2:=ca4 @Kn1 g hz (ca4 k1 k2 k3 (ca4 k4 k5 k6 (ca3 k7 k8 k9)))
 refine AW.c 1 U2 Tru ?_
 refine AW.q fun K J0=>?_
 refine AW.c 1 U2 Tru ?_
 apply AW.x rfl
 apply AW.z
 apply J0
 refine AW.c 1 U2 (Va2 sd a b c i) ?_
 exact AW.ret (hQ _ _ _ (RetP.z hwf U2))
theorem Vn5 (sd a b c i n:Int)(m:Ja1)(hn:n<=1000000000):Ctr Tryz.prog 149 [.agg (Jn5 sd a b c),.one (.int .i64 i),.one (.int .i64 n)] m (.one (.int .i64 (Jo9 sd a b c i n))) m:=by
 by_cases g:n<1
 ·exact Vn3 sd a b c i n m g
 exact Vn4 sd a b c i n m g hn
def Kv5 (a:V):Int:=maxI 16384 (Jb9 (maxI (maxI (a 0) (a 1)) (a 2)))
def Jn8 (a:V)(u:Int):V:=fun k=>if Kv5 a<=Jb9 u then 0 else Jh2 (a k) (Kv5 a)
theorem Xg7 (a:V)(u:Int)(m:Ja1)(g:Kv5 a<=Jb9 u):Ctr Tryz.prog 56 [.agg (c3C a),.one (.int .i64 u)] m (.tup [(true,c3C (Jn8 a u)),(false,[.bool false])]) m:=by
 refine Ctr.en Tryz.func56 [.cell 4 42,.tmp 5] 36 fun hwf Q hQ=>?_
 obtain ⟨x,hx⟩:∃ x,maxI (maxI (a 0) (a 1)) (a 2)=x:=⟨_,rfl⟩
 obtain ⟨z,hz⟩:∃ z,Kv5 a=z:=⟨_,rfl⟩
 have hz1:maxI 16384 (Jb9 x)=z:=by rw [<-hz,<-hx];rfl
 rw [hz] at g
 have hv:c3C (Jn8 a u)=[.int .i64 0,.int .i64 0,.int .i64 0]:=by unfold c3C Jn8;rw [hz];simp only [g,if_true]
 rw [hv] at hQ
 have U1:=ca4 @Ja4 hx hz1 g
 refine AW.c 3 U1 Jz3 ?_
 refine AW.q fun K J0=>?_
 refine AW.c 1 U1 Jz3 ?_
 apply AW.y rfl
 refine AW.c 1 U1 Tru ?_
 exact AW.ret (hQ _ _ _ (RetP.z hwf Tru))
theorem Xg8 (a:V)(u:Int)(m:Ja1)(g:¬Kv5 a<=Jb9 u):Ctr Tryz.prog 56 [.agg (c3C a),.one (.int .i64 u)] m (.tup [(true,c3C (Jn8 a u)),(false,[.bool true])]) m:=by
 refine Ctr.en Tryz.func56 [.cell 4 42,.tmp 5] 36 fun hwf Q hQ=>?_
 obtain ⟨x,hx⟩:∃ x,maxI (maxI (a 0) (a 1)) (a 2)=x:=⟨_,rfl⟩
 obtain ⟨z,hz⟩:∃ z,Kv5 a=z:=⟨_,rfl⟩
 have hz1:maxI 16384 (Jb9 x)=z:=by rw [<-hz,<-hx];rfl
 rw [hz] at g
 have hv:c3C (Jn8 a u)=[.int .i64 (Jh2 (a 0) z),.int .i64 (Jh2 (a 1) z),.int .i64 (Jh2 (a 2) z)]:=by unfold c3C Jn8;rw [hz];simp only [g,if_false]
 rw [hv] at hQ
 have U2:=ca4 @Ja4 hx hz1 g
 refine AW.c 3 U2 Jz3 ?_
 refine AW.q fun K J0=>?_
 refine AW.c 1 U2 Jz3 ?_
 apply AW.x rfl
 apply AW.z
 apply J0
 refine AW.d [.val,.rd 0,.val,.ext,.val,.rd 0,.val,.ext,.val,.rd 0,.val,.ext,.val,.wr,.val] fol U2 Jr4 ?_
 exact AW.ret (hQ _ _ _ (RetP.z hwf Tru))
theorem Vm8 (a:V)(u:Int)(m:Ja1)(g:Kv5 a<=Jb9 u):Ctr Tryz.prog 65 [.agg (c3C a),.one (.int .i64 u)] m (.tup [(true,c3C (Jn8 a u)),(false,[.bool false])]) m:=by
 refine Ctr.en Tryz.func65 [.cell 4 24,.tmp 5] 46 fun hwf Q hQ=>?_
 obtain ⟨x,hx⟩:∃ x,maxI (maxI (a 0) (a 1)) (a 2)=x:=⟨_,rfl⟩
 obtain ⟨z,hz⟩:∃ z,Kv5 a=z:=⟨_,rfl⟩
 have hz1:maxI 16384 (Jb9 x)=z:=by rw [<-hz,<-hx];rfl
 rw [hz] at g
 have hv:c3C (Jn8 a u)=[.int .i64 0,.int .i64 0,.int .i64 0]:=by unfold c3C Jn8;rw [hz];simp only [g,if_true]
 rw [hv] at hQ
 have U3:=ca3 @Ja4 hx g
 refine AW.c 2 U3 Tru ?_
 refine AW.q fun K J0=>?_
 refine AW.c 1 U3 Tru ?_
 apply AW.b
 refine AW.r 3 ?_
 refine ARounds.s fun K J1=>?_
 refine AW.q fun K J2=>?_
 refine AW.c 1 U3 Tru ?_
 apply AW.y rfl
 apply AW.z
 apply J2
 refine AW.q fun K J2=>?_
 apply AW.b
 refine AW.c 1 U3 Tru ?_
 refine AW.condJ rfl [1,2,4,7] [(6,.one (.int .i64 (maxI (a 0) (a 1))))] [] (fun h21=>?_) (fun h21=>?_) ?_
 ·have hmn:maxI (a 0) (a 1)=(a 1):=if_pos (of_decide_eq_true h21)
  refine AW.g U3 Tru ?_
  apply Jc2
  try simp only [Jb1,Ja2,push_cast,simprocAttr,U3,hmn]
  exact Weak.same (by simp only [KS,simprocAttr,hmn]) (by first|rfl|simp only [KS,simprocAttr,hmn])
 ·have hmn:maxI (a 0) (a 1)=(a 0):=if_neg (of_decide_eq_false h21)
  apply AW.z
  apply Jc2
  try simp only [Jb1,Ja2,push_cast,simprocAttr,U3,hmn]
  exact Weak.same (by simp only [KS,simprocAttr,hmn]) (by first|rfl|simp only [KS,simprocAttr,hmn])
 try simp only [Jb1,Ja2,push_cast,simprocAttr,U3]
 apply Ja8
 apply J2
 refine AW.g U3 Tru ?_
 apply J1
 refine ARounds.s fun K J1=>?_
 refine AW.q fun K J2=>?_
 refine AW.c 1 U3 Tru ?_
 apply AW.y rfl
 apply AW.z
 apply J2
 refine AW.q fun K J2=>?_
 apply AW.b
 refine AW.c 1 U3 Tru ?_
 refine AW.condJ rfl [1,2,4,7] [(6,.one (.int .i64 x))] [] (fun h21=>?_) (fun h21=>?_) ?_
 ·have hmn:x=(a 2):=by rw [<-hx];exact if_pos (of_decide_eq_true h21)
  refine AW.g U3 Tru ?_
  apply Jc2
  try simp only [Jb1,Ja2,push_cast,simprocAttr,U3,hmn]
  exact Weak.same (by simp only [KS,simprocAttr,hmn]) (by first|rfl|simp only [KS,simprocAttr,hmn])
 ·have hmn:x=maxI (a 0) (a 1):=by rw [<-hx];exact if_neg (of_decide_eq_false h21)
  apply AW.z
  apply Jc2
  try simp only [Jb1,Ja2,push_cast,simprocAttr,U3,hmn]
  exact Weak.same (by simp only [KS,simprocAttr,hmn]) (by first|rfl|simp only [KS,simprocAttr,hmn])
 try simp only [Jb1,Ja2,push_cast,simprocAttr,U3]
 apply Ja8
 apply J2
 refine AW.g U3 Tru ?_
 apply J1
 refine ARounds.s fun K J1=>?_
 refine AW.q fun K J2=>?_
 refine AW.c 1 U3 Tru ?_
 apply AW.x rfl
 apply AW.v
 apply Jb0
 apply Jb0
 apply Ja6
 apply J0
 refine AW.c 1 U3 Js7 ?_
 refine AW.q fun K J0=>?_
 refine AW.c 1 U3 Tru ?_
 refine AW.condJ rfl [1,2,4] [(8,.one (.int .i64 z))] [] (fun h28=>?_) (fun h28=>?_) ?_
 ·have hmn:z=16384:=by rw [<-hz1];have:=of_decide_eq_true h28;exact if_neg (by omega)
  refine AW.g U3 Tru ?_
  apply Jc2
  try simp only [Jb1,Ja2,push_cast,simprocAttr,U3,hmn,hx]
  exact Weak.same (by simp only [KS,simprocAttr,hmn,hx]) (by first|rfl|simp only [KS,simprocAttr,hmn,hx])
 ·have hmn:z=Jb9 x:=by rw [<-hz1];have:=of_decide_eq_false h28;unfold maxI;split<;>omega
  apply AW.z
  apply Jc2
  try simp only [Jb1,Ja2,push_cast,simprocAttr,U3,hmn,hx]
  exact Weak.same (by simp only [KS,simprocAttr,hmn,hx]) (by first|rfl|simp only [KS,simprocAttr,hmn,hx])
 try simp only [Jb1,Ja2,push_cast,simprocAttr,U3]
 apply J0
 refine AW.q fun K J0=>?_
 refine AW.c 1 U3 Js7 ?_
 apply AW.y rfl
 refine AW.c 1 U3 Tru ?_
 exact AW.ret (hQ _ _ _ (RetP.z hwf Tru))
theorem Vm9 (a:V)(u:Int)(m:Ja1)(g:¬Kv5 a<=Jb9 u):Ctr Tryz.prog 65 [.agg (c3C a),.one (.int .i64 u)] m (.tup [(true,c3C (Jn8 a u)),(false,[.bool true])]) m:=by
 refine Ctr.en Tryz.func65 [.cell 4 24,.tmp 5] 46 fun hwf Q hQ=>?_
 obtain ⟨x,hx⟩:∃ x,maxI (maxI (a 0) (a 1)) (a 2)=x:=⟨_,rfl⟩
 obtain ⟨z,hz⟩:∃ z,Kv5 a=z:=⟨_,rfl⟩
 have hz1:maxI 16384 (Jb9 x)=z:=by rw [<-hz,<-hx];rfl
 rw [hz] at g
 have hv:c3C (Jn8 a u)=[.int .i64 (Jh2 (a 0) z),.int .i64 (Jh2 (a 1) z),.int .i64 (Jh2 (a 2) z)]:=by unfold c3C Jn8;rw [hz];simp only [g,if_false]
 rw [hv] at hQ
 have U4:=ca3 @Ja4 hx g
 refine AW.c 2 U4 Tru ?_
 refine AW.q fun K J0=>?_
 refine AW.c 1 U4 Tru ?_
 apply AW.b
 refine AW.r 3 ?_
 refine ARounds.s fun K J1=>?_
 refine AW.q fun K J2=>?_
 refine AW.c 1 U4 Tru ?_
 apply AW.y rfl
 apply AW.z
 apply J2
 refine AW.q fun K J2=>?_
 apply AW.b
 refine AW.c 1 U4 Tru ?_
 refine AW.condJ rfl [1,2,4,7] [(6,.one (.int .i64 (maxI (a 0) (a 1))))] [] (fun h21=>?_) (fun h21=>?_) ?_
 ·have hmn:maxI (a 0) (a 1)=(a 1):=if_pos (of_decide_eq_true h21)
  refine AW.g U4 Tru ?_
  apply Jc2
  try simp only [Jb1,Ja2,push_cast,simprocAttr,U4,hmn]
  exact Weak.same (by simp only [KS,simprocAttr,hmn]) (by first|rfl|simp only [KS,simprocAttr,hmn])
 ·have hmn:maxI (a 0) (a 1)=(a 0):=if_neg (of_decide_eq_false h21)
  apply AW.z
  apply Jc2
  try simp only [Jb1,Ja2,push_cast,simprocAttr,U4,hmn]
  exact Weak.same (by simp only [KS,simprocAttr,hmn]) (by first|rfl|simp only [KS,simprocAttr,hmn])
 try simp only [Jb1,Ja2,push_cast,simprocAttr,U4]
 apply Ja8
 apply J2
 refine AW.g U4 Tru ?_
 apply J1
 refine ARounds.s fun K J1=>?_
 refine AW.q fun K J2=>?_
 refine AW.c 1 U4 Tru ?_
 apply AW.y rfl
 apply AW.z
 apply J2
 refine AW.q fun K J2=>?_
 apply AW.b
 refine AW.c 1 U4 Tru ?_
 refine AW.condJ rfl [1,2,4,7] [(6,.one (.int .i64 x))] [] (fun h21=>?_) (fun h21=>?_) ?_
 ·have hmn:x=(a 2):=by rw [<-hx];exact if_pos (of_decide_eq_true h21)
  refine AW.g U4 Tru ?_
  apply Jc2
  try simp only [Jb1,Ja2,push_cast,simprocAttr,U4,hmn]
  exact Weak.same (by simp only [KS,simprocAttr,hmn]) (by first|rfl|simp only [KS,simprocAttr,hmn])
 ·have hmn:x=maxI (a 0) (a 1):=by rw [<-hx];exact if_neg (of_decide_eq_false h21)
  apply AW.z
  apply Jc2
  try simp only [Jb1,Ja2,push_cast,simprocAttr,U4,hmn]
  exact Weak.same (by simp only [KS,simprocAttr,hmn]) (by first|rfl|simp only [KS,simprocAttr,hmn])
 try simp only [Jb1,Ja2,push_cast,simprocAttr,U4]
 apply Ja8
 apply J2
 refine AW.g U4 Tru ?_
 apply J1
 refine ARounds.s fun K J1=>?_
 refine AW.q fun K J2=>?_
 refine AW.c 1 U4 Tru ?_
 apply AW.x rfl
 apply AW.v
 apply Jb0
 apply Jb0
 apply Ja6
 apply J0
 refine AW.c 1 U4 Js7 ?_
 refine AW.q fun K J0=>?_
 refine AW.c 1 U4 Tru ?_
 refine AW.condJ rfl [1,2,4] [(8,.one (.int .i64 z))] [] (fun h28=>?_) (fun h28=>?_) ?_
 ·have hmn:z=16384:=by rw [<-hz1];have:=of_decide_eq_true h28;exact if_neg (by omega)
  refine AW.g U4 Tru ?_
  apply Jc2
  try simp only [Jb1,Ja2,push_cast,simprocAttr,U4,hmn,hx]
  exact Weak.same (by simp only [KS,simprocAttr,hmn,hx]) (by first|rfl|simp only [KS,simprocAttr,hmn,hx])
 ·have hmn:z=Jb9 x:=by rw [<-hz1];have:=of_decide_eq_false h28;unfold maxI;split<;>omega
  apply AW.z
  apply Jc2
  try simp only [Jb1,Ja2,push_cast,simprocAttr,U4,hmn,hx]
  exact Weak.same (by simp only [KS,simprocAttr,hmn,hx]) (by first|rfl|simp only [KS,simprocAttr,hmn,hx])
 try simp only [Jb1,Ja2,push_cast,simprocAttr,U4]
 apply J0
 refine AW.q fun K J0=>?_
 refine AW.c 1 U4 Js7 ?_
 apply AW.x rfl
 apply AW.z
 apply J0
 refine AW.c 1 U4 Tru ?_
 refine AW.q fun K J0=>?_
 refine AW.c 1 U4 Tru ?_
 apply AW.b
 refine AW.r 4 ?_
 refine ARounds.s fun K J1=>?_
 refine AW.q fun K J2=>?_
 refine AW.c 1 U4 Tru ?_
 apply AW.y rfl
 apply AW.z
 apply J2
 refine AW.q fun K J2=>?_
 apply AW.b
 refine AW.g U4 Jh6 ?_
 apply Ja8
 apply J2
 refine AW.g U4 Tru ?_
 apply J1
 refine ARounds.s fun K J1=>?_
 refine AW.q fun K J2=>?_
 refine AW.c 1 U4 Tru ?_
 apply AW.y rfl
 apply AW.z
 apply J2
 refine AW.q fun K J2=>?_
 apply AW.b
 refine AW.g U4 Jh6 ?_
 apply Ja8
 apply J2
 refine AW.g U4 Tru ?_
 apply J1
 refine ARounds.s fun K J1=>?_
 refine AW.q fun K J2=>?_
 refine AW.c 1 U4 Tru ?_
 apply AW.y rfl
 apply AW.z
 apply J2
 refine AW.q fun K J2=>?_
 apply AW.b
 refine AW.g U4 Jh6 ?_
 apply Ja8
 apply J2
 refine AW.g U4 Tru ?_
 apply J1
 refine ARounds.s fun K J1=>?_
 refine AW.q fun K J2=>?_
 refine AW.c 1 U4 Tru ?_
 apply AW.x rfl
 apply AW.v
 apply Jb0
 apply Jb0
 apply Ja6
 apply J0
 refine AW.c 1 U4 Tru ?_
 exact AW.ret (hQ _ _ _ (RetP.z hwf Tru))
theorem Fit.size2 {N:Nat->ND}{C:Nat->Nat->Prop}{t:TR}{a b:Nat}(h:Fit N C t a b):t.size+1<=2*(b - a):=by
 induction h with
 | leaf _ _ _ h=>show 1+1<=_;omega
 | node _ l r _ _ _ _ _ _ fl fr _ h1 h2 =>
  have:=fl.lt
  have:=fr.lt
  show l.size+r.size+1+1<=_
  omega
theorem Qw8:∀ l:List (TR × Nat × Nat),l.length<=Jz6 l
 | []=>Nat.le_refl _
 | e::l=>by
  have:=Qw8 l
  have:=Kb9 e.1
  show l.length+1<=e.1.size+Jz6 l
  omega
structure FS where
 (q:Option (TR × Nat × Nat)) (stk:List (TR × Nat × Nat)) (b:Option (Int × Nat)) (ver cnt:Nat)
def qL:Option (TR × Nat × Nat)->List (TR × Nat × Nat)
 | none=>[]
 | some e=>[e]
def qR:Option (TR × Nat × Nat)->Nat
 | none=>0
 | some e=>e.1.root
def qZ:Option (TR × Nat × Nat)->Nat
 | none=>0
 | some e=>e.1.size - 1
def rtL (l:List (TR × Nat × Nat)):List Nat:=l.reverse.map fun e=>e.1.root
abbrev LK:=Nat->List (TR × Nat × Nat)->Option (Int × Nat)->Nat
structure FInv (N:Nat->ND)(C:Nat->Nat->Prop)(n:Nat)(o:List Nat)(H:Nat->Option Int)(tot:Nat)(lk:LK)(T:Nat)(s:FS):Prop where
 w:WInv N C n o H (qL s.q++s.stk) s.b
 z:s.q=none->s.stk=[]
 c:s.cnt+Jz6 s.stk+qZ s.q<=tot
 k:∃ f,Jz6 (qL s.q++s.stk)<=f/\s.cnt+lk f (qL s.q++s.stk) s.b=T+(qL s.q).length
def muF (s:FS):Nat:=Jz6 (qL s.q++s.stk)
theorem Ke6 (l:List (TR × Nat × Nat)):(rtL l).length=l.length:=by unfold rtL;simp
theorem Ku1 (e:TR × Nat × Nat)(l:List (TR × Nat × Nat)):rtL (e::l)=rtL l++[e.1.root]:=by unfold rtL;simp
section
variable {N:Nat->ND}{C:Nat->Nat->Prop}{n tot T:Nat}{o:List Nat}{H:Nat->Option Int}{lk:LK}{e x:TR × Nat × Nat}{stk stk':List (TR × Nat × Nat)}{b b':Option (Int × Nat)}{ver ver' cnt:Nat}
theorem FInv.step (h:FInv N C n o H tot lk T ⟨some e,stk,b,ver,cnt⟩){l:List (TR × Nat × Nat)}(hs:Jz6 l<e.1.size+Jz6 stk)(hl:∀ f,lk (f+1) (e::stk) b=1+lk f l b'):∃ f,Jz6 l<=f/\cnt+lk f l b'=T:=by
 obtain ⟨f,h1,h2⟩:=h.k
 have h1':e.1.size+Jz6 stk<=f:=h1
 have h2':cnt+lk f (e::stk) b=T+1:=h2
 obtain ⟨g,rfl⟩:∃ g,f=g+1:=⟨f - 1,by omega⟩
 rw [hl] at h2'
 exact ⟨g,by omega,by omega⟩
theorem FInv.pop0 (h:FInv N C n o H tot lk T ⟨some e,stk,b,ver,cnt⟩)(w:WInv N C n o H [] b')(hs:Jz6 []<e.1.size+Jz6 stk)(hl:∀ f,lk (f+1) (e::stk) b=1+lk f [] b'):FInv N C n o H tot lk T ⟨none,[],b',ver',cnt⟩ :=
 ⟨w,fun _=>rfl,by have:=h.c;show cnt+0+0<=tot;dsimp only at this;omega,h.step hs hl⟩
theorem FInv.pop1 (h:FInv N C n o H tot lk T ⟨some e,stk,b,ver,cnt⟩)(w:WInv N C n o H (x::stk') b')(hs:Jz6 (x::stk')<e.1.size+Jz6 stk)(hl:∀ f,lk (f+1) (e::stk) b=1+lk f (x::stk') b'):FInv N C n o H tot lk T ⟨some x,stk',b',ver',cnt+1⟩ :=
 by
  refine ⟨w,fun q=>(nomatch q),?_,?_⟩
  · have:=h.c
    have hs':x.1.size+Jz6 stk'<e.1.size+Jz6 stk:=hs
    have h1:=Kb9 x.1
    have h2:=Kb9 e.1
    have h3:cnt+Jz6 stk+(e.1.size - 1)<=tot:=this
    show cnt+1+Jz6 stk'+(x.1.size - 1)<=tot
    omega
  obtain ⟨f,h1,h2⟩:=h.step hs hl
  exact ⟨f,h1,by show cnt+1+lk f (x::stk') b'=T+1;omega⟩
end
def Qp0 (N:Nat->ND):TR->Nat
 | .leaf a=>(N a).count.toNat
 | .node _ l r=>Qp0 N l+Qp0 N r
theorem Fit.wid {N:Nat->ND}{C:Nat->Nat->Prop}{t:TR}{a b:Nat}(h:Fit N C t a b):b=a+Qp0 N t:=by
 induction h with
 | leaf _ _ _ h _ _ hc=>show _=_+(N _).count.toNat;rw [hc];omega
 | node _ l r _ _ _ _ _ _ _ _ _ h1 h2=>show _=_+(Qp0 N l+Qp0 N r);omega
open Classical in
noncomputable def Jz1 (nds:List ND)(o:List Nat)(r:RY)(mv:Nat->MV)(near far:Int):LK
 | 0,_,_=>0
 | _+1,[],_=>0
 | f+1,(t,a,c)::stk,b =>
  if ¬Ju4 (atP (Jy3 nds t.root).p r.part) (Jz7 r near (Jp0 far b)) then 1+Jz1 nds o r mv near far f stk b else
   match t with
   | .leaf _=>1+Jz1 nds o r mv near far f stk (Jq5 (Hq r mv near far) o a b (c - a))
   | .node _ l r'=>1+Jz1 nds o r mv near far f ((l,a,a+Qp0 (Jy3 nds) l)::(r',a+Qp0 (Jy3 nds) l,c)::stk) b
section
variable {nds:List ND}{o:List Nat}{r:RY}{mv:Nat->MV}{near far:Int}{f a c at':Nat}{t l r':TR}{stk:List (TR × Nat × Nat)}{b:Option (Int × Nat)}
theorem Vp5:Jz1 nds o r mv near far f [] b=0:=by cases f<;>rfl
theorem Qb1 {e:TR × Nat × Nat}(h:¬Ju4 (atP (Jy3 nds e.1.root).p r.part) (Jz7 r near (Jp0 far b))):Jz1 nds o r mv near far (f+1) (e::stk) b=1+Jz1 nds o r mv near far f stk b:=by
 obtain ⟨t,a,c⟩:=e
 exact if_pos h
theorem Qb2 (h:Ju4 (atP (Jy3 nds at').p r.part) (Jz7 r near (Jp0 far b))):Jz1 nds o r mv near far (f+1) ((.leaf at',a,c)::stk) b=1+Jz1 nds o r mv near far f stk (Jq5 (Hq r mv near far) o a b (c - a)):=if_neg (fun q=>q h)
theorem Vd2 (h:Ju4 (atP (Jy3 nds at').p r.part) (Jz7 r near (Jp0 far b))):Jz1 nds o r mv near far (f+1) ((.node at' l r',a,c)::stk) b=1+Jz1 nds o r mv near far f ((l,a,a+Qp0 (Jy3 nds) l)::(r',a+Qp0 (Jy3 nds) l,c)::stk) b:=if_neg (fun q=>q h)
end
theorem Xh0 {N:Nat->ND}{C:Nat->Nat->Prop}{n:Nat}{o:List Nat}{r:RY}{mv:Nat->MV}{near far:Int}{stk:List (TR × Nat × Nat)}{b:Option (Int × Nat)}(h:WInv N C n o (Hq r mv near far) stk b)(a k:Nat):Jp0 far (Jq5 (Hq r mv near far) o a b k)<=far:=by
 obtain ⟨V,h1,_⟩:=h.ex
 exact Vq1 (Vh4 r mv near far) h1 k
theorem Qr8 (r:RY)(mv:Nat->MV)(near far:Int)(b:Option (Int × Nat))(i:Nat)(hb:Jp0 far b<=far) :
  (Hq r mv near (Jp0 far b) i=none/\Kx1 b i (Hq r mv near far i)=b) \/
  (∃ t,Hq r mv near (Jp0 far b) i=some t/\b=none/\Kx1 b i (Hq r mv near far i)=some (t,i)) \/
  (∃ t u j,Hq r mv near (Jp0 far b) i=some t/\b=some (u,j)/\t<u/\Kx1 b i (Hq r mv near far i)=some (t,i)) \/
  (∃ t u j,Hq r mv near (Jp0 far b) i=some t/\b=some (u,j)/\¬t<u/\t=u/\i<j/\Kx1 b i (Hq r mv near far i)=some (t,i)) \/
  (∃ t u j,Hq r mv near (Jp0 far b) i=some t/\b=some (u,j)/\¬t<u/\t=u/\¬i<j/\Kx1 b i (Hq r mv near far i)=b) \/
  (∃ t u j,Hq r mv near (Jp0 far b) i=some t/\b=some (u,j)/\¬t<u/\¬t=u/\Kx1 b i (Hq r mv near far i)=b):=by
 have e:Kx1 b i (Hq r mv near (Jp0 far b) i)=Kx1 b i (Hq r mv near far i):=by
  rw [Xm4 r mv hb i];exact Vt6 (S:=fun _=>True) (Vh4 r mv near far) i
 rw [<-e]
 cases h:Hq r mv near (Jp0 far b) i with
 | none=>exact .inl ⟨rfl,rfl⟩
 | some t =>
  match b with
  | none=>exact .inr (.inl ⟨t,rfl,rfl,rfl⟩)
  | some (u,j) =>
   by_cases g:t<u
   ·exact .inr (.inr (.inl ⟨t,u,j,rfl,rfl,g,if_pos (.inl g)⟩))
   by_cases g2:t=u
   ·by_cases g3:i<j
    ·exact .inr (.inr (.inr (.inl ⟨t,u,j,rfl,rfl,g,g2,g3,if_pos (.inr ⟨g2,g3⟩)⟩)))
    exact .inr (.inr (.inr (.inr (.inl ⟨t,u,j,rfl,rfl,g,g2,g3,if_neg (fun q=>q.elim g fun q=>g3 q.2)⟩))))
   exact .inr (.inr (.inr (.inr (.inr ⟨t,u,j,rfl,rfl,g,g2,if_neg (fun q=>q.elim g fun q=>g2 q.1)⟩))))
theorem WInv.missN {nds:List ND}{n:Nat}{o:List Nat}{r:RY}{mv:Nat->MV}{near far:Int}{e:TR × Nat × Nat}{stk:List (TR × Nat × Nat)}{b:Option (Int × Nat)}
  (h:WInv (Jy3 nds) (Xm8 (prM mv) nds o) n o (Hq r mv near far) (e::stk) b) (hm:¬Ju4 (atP (Jy3 nds e.1.root).p r.part) (Jz7 r near (Jp0 far b))):WInv (Jy3 nds) (Xm8 (prM mv) nds o) n o (Hq r mv near far) stk b:=by
 obtain ⟨t,a,c⟩:=e
 refine h.miss (Vh4 r mv near far) fun x i h1 h2 hx u hu=>?_
 have hc:=(h.fit _ List.mem_cons_self).1.cov x h1 h2
 exact Vb8 (fun u q hq=>hc i u q hx hq) hm hu
theorem WInv.kinds {N:Nat->ND}{C:Nat->Nat->Prop}{n:Nat}{o:List Nat}{H:Nat->Option Int}{e:TR × Nat × Nat}{stk:List (TR × Nat × Nat)}{b:Option (Int × Nat)}(h:WInv N C n o H (e::stk) b) :
  (∃ at' a c,e=(.leaf at',a,c)/\(N at').first=(a:Int)/\(N at').count=((c - a:Nat):Int)/\a<c/\c<=a+4/\c<=n) \/
  (∃ at' l r a m c,e=(.node at' l r,a,c)/\(N at').count=0/\(N at').left=(l.root:Int)/\(N at').right=(r.root:Int)/\m=a+Qp0 N l/\WInv N C n o H ((l,a,m)::(r,m,c)::stk) b):=by
 obtain ⟨t,a,c⟩:=e
 have h0:=h.fit _ List.mem_cons_self
 cases h1:t with
 | leaf at' =>
  subst h1
  obtain ⟨f0,f1⟩:=h0
  cases f0 with
  | leaf _ _ _ q1 q2 q3 q4 _=>exact .inl ⟨at',a,c,rfl,q3,q4,q1,q2,f1⟩
 | node at' l r =>
  subst h1
  obtain ⟨m,hm⟩:=h.down
  obtain ⟨f0,f1⟩:=h0
  cases f0 with
  | node _ _ _ _ _ _ q1 q2 q3 _ _ _=>exact .inr ⟨at',l,r,a,m,c,rfl,q1,q2,q3,(hm.fit _ List.mem_cons_self).1.wid,hm⟩
theorem Vg3 (h g:HT)(m:Ja1)(e1:h.t<g.t):Ctr Tryz.prog 128 [.agg (htC h),.agg (htC g)] m (.one (.bool true)) m:=by
 refine Ctr.en Tryz.func128 [.tmp 4] 24 fun hwf Q hQ=>?_
 have U1:=ca3 @Jj3 @Ja4 e1
 refine AW.c 2 U1 Tru ?_
 exact AW.ret (hQ _ _ _ (RetP.z hwf U1))
theorem Qd0 (h g:HT)(m:Ja1)(e1:¬h.t<g.t)(e2:h.t=g.t):Ctr Tryz.prog 128 [.agg (htC h),.agg (htC g)] m (.one (.bool (decide (h.i<g.i)))) m:=by
 refine Ctr.en Tryz.func128 [.tmp 4] 24 fun hwf Q hQ=>?_
 have e3:(h.t ==g.t)=true:=beq_iff_eq.2 e2
 have U2:=ca4 @Jj3 @Ja4 e1 e3
 refine AW.c 2 U2 Tru ?_
 exact AW.ret (hQ _ _ _ (RetP.z hwf U2))
theorem Vg2 (h g:HT)(m:Ja1)(e1:¬h.t<g.t)(e2:¬h.t=g.t):Ctr Tryz.prog 128 [.agg (htC h),.agg (htC g)] m (.one (.bool false)) m:=by
 refine Ctr.en Tryz.func128 [.tmp 4] 24 fun hwf Q hQ=>?_
 have e3:(h.t ==g.t)=false:=by simpa using e2
 have U3:=ca4 @Jj3 @Ja4 e1 e3
 refine AW.c 2 U3 Tru ?_
 exact AW.ret (hQ _ _ _ (RetP.z hwf U3))
theorem Qk7 (p:PR)(a b c d:Int)(m:Ja1):Ctr Tryz.prog 126 [.agg (prC p++[.int .i64 a,.int .i64 b,.int .i64 c,.int .i64 d])] m (.one (.bool (decide (0<d)))) m:=by
 refine Ctr.en Tryz.func126 [.tmp 2] 6 fun hwf Q hQ=>?_
 have U4:=ca3 @Kg9 @Je8 @Ja4
 refine AW.c 2 U4 Tru ?_
 exact AW.ret (hQ _ _ _ (RetP.z hwf U4))
theorem Xi1 (r:RY)(mv:Nat->MV)(nb nv ob ov sb sv n T:Nat)(t:TR)(nds:List ND)(o:List Nat)(near far:Int)(m:Ja1)(hnb:∃ k ez,m[nb]?=some ⟨k,255,nv,ez,ndL nds⟩)(hob:∃ k ez,m[ob]?=some ⟨k,3,ov,ez,iC o⟩)(hsb:∃ k ez,m[sb]?=some ⟨k,204,sv,ez,Jb6 n (mF mv)⟩)(hn:n<=400000)(hnl:nds.length<=2000000)(hfit:Fit (Jy3 nds) (Xm8 (prM mv) nds o) t 0 n)(hrt:t.root=0)(hop:o.Perm (List.range n))(hT:Jz1 nds o r mv near far (2*n) [(t,0,n)] none=T):Ctr Tryz.prog 50 [.agg [.sl nb nv 0 nds.length,.sl ob ov 0 n,.sl sb sv 0 n],.agg (ryC r),.one (.int .i64 near),.one (.int .i64 far)] m (.tup [(true,htC (Jf1 r mv (Jh1 (Hq r mv near far) n))),(false,[.bool (Jh1 (Hq r mv near far) n).isSome]),(false,[.int .i64 (T:Int)])]) m:=by
 refine Ctr.en Tryz.func50 [.cell 8 165,.tmp 9,.tmp 10] 124 fun hwf Q hQ=>?_
 obtain ⟨kn,en,hnb⟩:=hnb
 obtain ⟨ko,eo,hob⟩:=hob
 obtain ⟨ks,es,hsb⟩:=hsb
 have ln:=Jb2 hnb
 have lo:=Jb2 hob
 have ls:=Jb2 hsb
 have hol:o.length=n:=by have:=hop.length_eq;simpa using this
 have nl:=Km3 nds
 have oc:(iC o).length=n:=by rw [Jg8,hol]
 have sc:(Jb6 n (mF mv)).length=n*24:=Ja9 (w:=24) (F:=mF mv) (fun _=>rfl) _
 have h0:0<nds.length:=by have:=Vb9 hfit;omega
 have hz0:((nds.length:Int) ==0)=false:=by rw [beq_eq_false_iff_ne];omega
 have hsz:=hfit.size2
 have hpz:=Kb9 t
 have hq0:qR (some (t,0,n))=0:=hrt
 have hI0:FInv (Jy3 nds) (Xm8 (prM mv) nds o) n o (Hq r mv near far) (2*n) (Jz1 nds o r mv near far) T ⟨some (t,0,n),[],none,0,1⟩ :=
   ⟨WInv.start hfit hol,fun q=>(nomatch q),by show 1+0+(t.size - 1)<=2*n;omega,2*n,by show t.size+0<=2*n;omega,by show 1+Jz1 nds o r mv near far (2*n) [(t,0,n)] none=T+1;omega⟩
 have U5:=ca4 hnb (Ja5 hnb) hob (ca4 (Ja5 hob) hsb (Ja5 hsb) (ca4 nl oc sc (ca3 hz0 @Jh4 @Ja4)))
 refine AW.c 3 U5 Tru ?_
 refine AW.q fun K J0=>?_
 refine AW.c 1 U5 Tru ?_
 apply AW.x rfl
 apply AW.z
 apply J0
 refine AW.c 1 U5 Tru ?_
 refine AW.q fun K J0=>?_
 refine AW.sr 1 fun K J1=>?_
 simp only [push_cast,simprocAttr,U5]
 refine CThen.by (Kv3 (m.length+5) (m.length+4) 0 0 [] 0 _ (by (simp only [push_cast,simprocAttr])<;>rfl) (by (simp only [push_cast,simprocAttr])<;>rfl) (by omega) (by omega) (by simp)) ?_
 simp only [push_cast,simprocAttr,U5]
 apply J1
 apply AW.b
 refine AW.loopK [2,4,5,8,11,13] (fun s=>FInv (Jy3 nds) (Xm8 (prM mv) nds o) n o (Hq r mv near far) (2*n) (Jz1 nds o r mv near far) T s) (fun s=>[(3,.one (.int .i64 (Jp0 far s.b))),(12,.one (.bool s.b.isSome)),(14,.one (.int .i64 (((qR s.q:Nat):Int)))),(15,.one (.bool s.q.isSome))]) (fun s=>[(m.length+3,⟨.fix,165,0,0,[.int .i64 (Jf1 r mv s.b).t,.int .i64 (Jf1 r mv s.b).i,.int .i64 ((Jf1 r mv s.b).p 0),.int .i64 ((Jf1 r mv s.b).p 1),.int .i64 ((Jf1 r mv s.b).p 2),.int .i64 ((Jf1 r mv s.b).n 0),.int .i64 ((Jf1 r mv s.b).n 1),.int .i64 ((Jf1 r mv s.b).n 2)]⟩),(m.length+4,⟨.grow,3,s.ver,1,iC (rtL s.stk)⟩),(m.length+5,⟨.fix,251,0,0,[.sl (m.length+4) s.ver 0 s.stk.length,.int .i64 (s.cnt:Int)]⟩)]) (fun s=>muF s) ⟨some (t,0,n),[],none,0,1⟩ hI0 ?_ ?_ fun s hi3=>?_
 · first|rfl|(simp only [KS,simprocAttr,hq0,Jf1,ht0,z0V,Jp0,rtL,List.reverse_nil,List.map_nil,iC,Int.natCast_zero,Int.natCast_one,List.length_nil,Option.isSome_none,Option.isSome_some]<;>repeat' (first|rfl|apply And.intro))
 · (simp only [Ja2,push_cast,simprocAttr,Jf1,ht0,z0V,rtL,List.reverse_nil,List.map_nil,iC])<;>rfl
 obtain ⟨sq,stk,b,ver,cnt⟩:=s
 have hfi:=hi3
 have hcb:=hfi.c
 dsimp only at hcb hfi ⊢
 try simp only [Jb1,Ja2,push_cast,simprocAttr,U5]
 refine AW.q fun K J1=>?_
 refine AW.c 1 U5 Tru ?_
 refine AW.cond rfl (fun h35=>?_) (fun h35=>?_)
 ·obtain ⟨e,rfl⟩:=Option.isSome_iff_exists.1 h35
  have w0:WInv (Jy3 nds) (Xm8 (prM mv) nds o) n o (Hq r mv near far) (e::stk) b:=hfi.w
  have hcb2:cnt+Jz6 stk+(e.1.size - 1)<=2*n:=hcb
  have hsl:=Qw8 stk
  have hse:=Kb9 e.1
  have hlt:=Vb9 (w0.fit e List.mem_cons_self).1
  obtain ⟨nd,hnd⟩:∃ nd,nd=Jy3 nds e.1.root:=⟨_,rfl⟩
  have hq1:((qR (some e):Nat):Int)=(e.1.root:Int):=rfl
  obtain ⟨x,hx⟩:∃ x,x=e.1.root:=⟨_,rfl⟩
  have hlx:x<nds.length:=by rw [hx];exact hlt
  have ga:List.take 16 (List.drop (x*16) (ndL nds))=[.int .i64 (nd.p.a.lo 0),.int .i64 (nd.p.a.lo 1),.int .i64 (nd.p.a.lo 2),.int .i64 (nd.p.a.hi 0),.int .i64 (nd.p.a.hi 1),.int .i64 (nd.p.a.hi 2),.int .i64 (nd.p.b.lo 0),.int .i64 (nd.p.b.lo 1),.int .i64 (nd.p.b.lo 2),.int .i64 (nd.p.b.hi 0),.int .i64 (nd.p.b.hi 1),.int .i64 (nd.p.b.hi 2),.int .i64 nd.left,.int .i64 nd.right,.int .i64 nd.first,.int .i64 nd.count]:=by
    have g9:=Jc0 (w:=16) (F:=fun i=>ndC (nds.getD i nd0)) (fun _=>rfl) hlx
    have g8:nd=nds.getD x nd0:=by rw [hnd,<-hx];exact Vo1 hlx
    rw [<-g8] at g9
    exact g9
  have c1:(0:Int)<=(x:Int):=by omega
  have c2:(x:Int)<(nds.length:Int):=by omega
  have c3:x*16+16<=nds.length*16:=by omega
  rw [hq1,<-hx]
  apply AW.z
  apply J1
  refine AW.q fun K J1=>?_
  apply AW.b
  have U6:=ca4 U5 ga c1 (ca3 c2 c3 hlx)
  refine AW.c 1 U6 Tru ?_
  refine AW.q fun K J2=>?_
  refine AW.q fun K J3=>?_
  by_cases hme:Ju4 (atP (Jy3 nds e.1.root).p r.part) (Jz7 r near (Jp0 far b))
  ·have hmb:(true=true)↔Ju4 (atP nd.p r.part) (Jz7 r near (Jp0 far b)):=by rw [hnd];exact ⟨fun _=>hme,fun _=>rfl⟩
   refine AW.e [.val,.rd 0,.val,.rd 0,.ext,.rd 0,.val,.val,.ext,.ext,.val] fol U6 (ca3 (Xr5 nd.p r.part) (Qa0 r near (Jp0 far b)) (Vd0 (atP nd.p r.part) (Jz7 r near (Jp0 far b)) _ true hmb)) ?_
   apply J3
   apply AW.x rfl
   apply AW.z
   apply J2
   refine AW.q fun K J2=>?_
   refine AW.q fun K J3=>?_
   rcases w0.kinds with ⟨at',a,c,rfl,k1,k2,k3,k4,k5⟩|⟨at',l,r',a,m9,c,rfl,k1,k2,k3,km,w9⟩
   ·have hm2:Ju4 (atP (Jy3 nds at').p r.part) (Jz7 r near (Jp0 far b)):=by simpa [hnd,TR.root] using hme
    obtain ⟨w9,hw9⟩:∃ w,w=c - a:=⟨_,rfl⟩
    have hnc:(0:Int)<(w9:Int):=by omega
    have hnf:nd.first=(a:Int):=by rw [hnd];exact k1
    have hnt:nd.count=(w9:Int):=by rw [hnd,hw9];exact k2
    have hwa:IntKind.i64.wrap ((a:Int)+(w9:Int))=(c:Int):=by rw [show (a:Int)+(w9:Int)=(c:Int) by omega];exact wi (by omega)
    have f1:(0:Int)<=(a:Int):=by omega
    have f2:(a:Int)<=(c:Int):=by omega
    have f3:(c:Int)<=(n:Int):=by omega
    have f4:c<=n:=k5
    have f5:a<=c:=by omega
    have hca:(c:Int) - (a:Int)=(w9:Int):=by omega
    have hw8:c - a=w9:=hw9.symm
    have w1:=w0.leaf hol k3
    rw [hw8] at w1
    have U7:=ca4 U6 hnc hnf (ca4 hnt hwa f1 (ca4 f2 f3 f4 (ca3 f5 hca hw8)))
    refine AW.g U7 (Qk7 nd.p _ _ _ _ _) ?_
    apply J3
    apply AW.x rfl
    apply AW.z
    apply J2
    refine AW.c 1 U7 Tru ?_
    apply AW.b
    refine AW.loopK [2,4,5,8,11,13,84,85] (fun i=>i<=w9) (fun i=>[(3,.one (.int .i64 (Jp0 far (Jq5 (Hq r mv near far) o a b i)))),(12,.one (.bool (Jq5 (Hq r mv near far) o a b i).isSome)),(86,.one (.int .i64 (i:Int)))]) (fun i=>[(m.length+3,⟨.fix,165,0,0,[.int .i64 (Jf1 r mv (Jq5 (Hq r mv near far) o a b i)).t,.int .i64 (Jf1 r mv (Jq5 (Hq r mv near far) o a b i)).i,.int .i64 ((Jf1 r mv (Jq5 (Hq r mv near far) o a b i)).p 0),.int .i64 ((Jf1 r mv (Jq5 (Hq r mv near far) o a b i)).p 1),.int .i64 ((Jf1 r mv (Jq5 (Hq r mv near far) o a b i)).p 2),.int .i64 ((Jf1 r mv (Jq5 (Hq r mv near far) o a b i)).n 0),.int .i64 ((Jf1 r mv (Jq5 (Hq r mv near far) o a b i)).n 1),.int .i64 ((Jf1 r mv (Jq5 (Hq r mv near far) o a b i)).n 2)]⟩)]) (fun i=>w9 - i) 0 (by omega) ?_ ?_ fun i hi10=>?_
    · first|rfl|(simp only [KS,simprocAttr,Jq5,Int.natCast_zero]<;>repeat' (first|rfl|apply And.intro))
    · (simp only [Ja2,push_cast,simprocAttr,Jq5])<;>rfl
    try simp only [Jb1,Ja2,push_cast,simprocAttr,U7]
    refine AW.c 1 U7 Tru ?_
    refine AW.q fun K J2=>?_
    refine AW.cond rfl (fun h87=>?_) (fun h87=>?_)
    ·have hlt:i<w9:=by have:=of_decide_eq_true h87;omega
     have c1:(0:Int)<=(i:Int):=by omega
     have c2:(i:Int)<(w9:Int):=by omega
     obtain ⟨bi,hbi⟩:∃ bi,bi=(Jq5 (Hq r mv near far) o a b i):=⟨_,rfl⟩
     have hfb:Jp0 far bi<=far:=by rw [hbi];exact Xh0 w0 a i
     have hstep0:Jq5 (Hq r mv near far) o a b (i+1)=Kx1 bi (o.getD (a+i) 0) (Hq r mv near far (o.getD (a+i) 0)):=by rw [hbi];rfl
     have z1:(0:Int)<=(i:Int):=by omega
     have z2:(i:Int)<(w9:Int):=by omega
     have z3:a+i<o.length:=by omega
     obtain ⟨i9,hi9⟩:∃ i9,i9=o.getD (a+i) 0:=⟨_,rfl⟩
     rw [<-hi9] at hstep0
     have hcx:(iC o)[a+i]?=some (.int .i64 (i9:Int)):=by rw [hi9];exact Kn5 z3
     have x1:i9<n:=by
       have hm9:i9 ∈ o:=by rw [hi9,List.getD_eq_getElem?_getD,List.getElem?_eq_getElem z3];exact List.getElem_mem _
       simpa using hop.mem_iff.1 hm9
     have x2:(0:Int)<=(i9:Int):=by omega
     have x3:(i9:Int)<(n:Int):=by omega
     have x4:i9*24+24<=n*24:=by omega
     have gs:=Jc0 (w:=24) (F:=mF mv) (fun _=>rfl) x1
     have gsx:=Xg5 mv i9
     rw [<-hbi]
     apply AW.z
     apply J2
     refine AW.q fun K J2=>?_
     apply AW.b
     have U8:=ca4 U7 hcx x1 (ca4 x2 x3 x4 (ca4 gs gsx z1 (ca2 z2 hlt)))
     refine AW.c 1 U8 Tru ?_
     refine AW.q fun K J3=>?_
     rcases Qr8 r mv near far bi i9 hfb with ⟨ho,hst⟩|⟨t9,ho,hs0,hst⟩|⟨t9,u9,j9,ho,hs0,hg,hst⟩|⟨t9,u9,j9,ho,hs0,hg,hg2,hg3,hst⟩|⟨t9,u9,j9,ho,hs0,hg,hg2,hg3,hst⟩|⟨t9,u9,j9,ho,hs0,hg,hg2,hst⟩
     all_goals (have hstep:=hstep0.trans hst)
     ·have hth:htC (Ju9 r (atM (mv i9) r.part) none).1=[.int .i64 0,.int .i64 0,.int .i64 0,.int .i64 0,.int .i64 0,.int .i64 0,.int .i64 0,.int .i64 0]:=rfl
      have htb:(Ju9 r (atM (mv i9) r.part) none).2=false:=rfl
      have ho9:Jr9 r (atM (mv i9) r.part) near (Jp0 far bi)=none:=ho
      have q_1:=Kq9 r (mv i9) near (Jp0 far bi)
      rw [ho9] at q_1
      have U9:=ca3 U8 hth htb
      refine AW.e [.rd 0,.val,.rd 0,.val,.val,.rd 0,.val,.val,.ext,.val,.val,.val,.fl,.wr,.val] fol U9 q_1 ?_
      apply J3
      refine AW.c 2 U9 Tru ?_
      apply AW.x rfl
      apply AW.z
      apply Ja8
      apply J2
      refine AW.g U9 Tru ?_
      apply Jc2
      have hwi:IntKind.i64.wrap ((i:Int)+1)=(i:Int)+1:=wi (by omega)
      refine ⟨i+1,by omega,by omega,?_⟩
      try simp only [Jb1,Ja2,push_cast,simprocAttr,U9,hwi,hstep]
      exact Weak.to (extra:=_) (by simp only [KS,simprocAttr,hwi,hstep]) (by first|rfl|(simp only [List.append_assoc,List.cons_append,List.nil_append];rfl)) (by first|rfl|(simp [AV.below,CV.below];done)|(simp [AV.below,CV.below];omega)) (by exact MWf.app (hwf.grow (by simp)) (Ja0 (by simp [CV.below];omega) (Ja0 rfl (Ja0 rfl (Ja0 rfl (Ja0 (Jg9 _ _) (Ja0 (by simp [CV.below]) (Ja0 rfl Jb7))))))))
     ·have hth:htC (Ju9 r (atM (mv i9) r.part) (some t9)).1=[.int .i64 t9,.int .i64 0,.int .i64 (Je4 r t9 0),.int .i64 (Je4 r t9 1),.int .i64 (Je4 r t9 2),.int .i64 (Jj8 r (atM (mv i9) r.part) t9 0),.int .i64 (Jj8 r (atM (mv i9) r.part) t9 1),.int .i64 (Jj8 r (atM (mv i9) r.part) t9 2)]:=rfl
      have htb:(Ju9 r (atM (mv i9) r.part) (some t9)).2=true:=rfl
      have hbh:htC (Jf1 r mv (some (t9,i9)))=[.int .i64 t9,.int .i64 (i9:Int),.int .i64 (Je4 r t9 0),.int .i64 (Je4 r t9 1),.int .i64 (Je4 r t9 2),.int .i64 (Jj8 r (atM (mv i9) r.part) t9 0),.int .i64 (Jj8 r (atM (mv i9) r.part) t9 1),.int .i64 (Jj8 r (atM (mv i9) r.part) t9 2)]:=rfl
      have ho9:Jr9 r (atM (mv i9) r.part) near (Jp0 far bi)=some t9:=ho
      have hfr:Jp0 far (some (t9,i9))=t9:=rfl
      have q_2:=Kq9 r (mv i9) near (Jp0 far bi)
      rw [ho9,hs0] at q_2
      have U10:=ca4 U8 hs0 hth (ca3 htb hbh hfr)
      refine AW.e [.rd 0,.val,.rd 0,.val,.val,.rd 0,.val,.val,.ext,.val,.val,.val,.fl,.wr,.val] fol U10 q_2 ?_
      apply J3
      refine AW.c 2 U10 Tru ?_
      apply AW.y rfl
      refine AW.c 1 U10 Tru ?_
      refine AW.g U10 Tru ?_
      apply Ja8
      apply J2
      refine AW.g U10 Tru ?_
      apply Jc2
      have hwi:IntKind.i64.wrap ((i:Int)+1)=(i:Int)+1:=wi (by omega)
      refine ⟨i+1,by omega,by omega,?_⟩
      try simp only [Jb1,Ja2,push_cast,simprocAttr,U10,hwi,hstep]
      exact Weak.to (extra:=_) (by simp only [KS,simprocAttr,hwi,hstep]) (by first|rfl|(simp only [List.append_assoc,List.cons_append,List.nil_append];rfl)) (by first|rfl|(simp [AV.below,CV.below];done)|(simp [AV.below,CV.below];omega)) (by exact MWf.app (hwf.grow (by simp)) (Ja0 (by simp [CV.below];omega) (Ja0 rfl (Ja0 rfl (Ja0 rfl (Ja0 (Jg9 _ _) (Ja0 (by simp [CV.below]) (Ja0 rfl Jb7))))))))
     ·have hth:htC (Ju9 r (atM (mv i9) r.part) (some t9)).1=[.int .i64 t9,.int .i64 0,.int .i64 (Je4 r t9 0),.int .i64 (Je4 r t9 1),.int .i64 (Je4 r t9 2),.int .i64 (Jj8 r (atM (mv i9) r.part) t9 0),.int .i64 (Jj8 r (atM (mv i9) r.part) t9 1),.int .i64 (Jj8 r (atM (mv i9) r.part) t9 2)]:=rfl
      have htb:(Ju9 r (atM (mv i9) r.part) (some t9)).2=true:=rfl
      have hbh:htC (Jf1 r mv (some (t9,i9)))=[.int .i64 t9,.int .i64 (i9:Int),.int .i64 (Je4 r t9 0),.int .i64 (Je4 r t9 1),.int .i64 (Je4 r t9 2),.int .i64 (Jj8 r (atM (mv i9) r.part) t9 0),.int .i64 (Jj8 r (atM (mv i9) r.part) t9 1),.int .i64 (Jj8 r (atM (mv i9) r.part) t9 2)]:=rfl
      have ho9:Jr9 r (atM (mv i9) r.part) near (Jp0 far bi)=some t9:=ho
      have hfr:Jp0 far (some (t9,i9))=t9:=rfl
      have q_3:=Kq9 r (mv i9) near (Jp0 far bi)
      rw [ho9,hs0] at q_3
      have U11:=ca4 U8 hs0 hth (ca3 htb hbh hfr)
      refine AW.e [.rd 0,.val,.rd 0,.val,.val,.rd 0,.val,.val,.ext,.val,.val,.val,.fl,.wr,.val] fol U11 q_3 ?_
      apply J3
      refine AW.c 2 U11 (Vg3 ⟨t9,(i9:Int),Je4 r t9,Jj8 r (atM (mv i9) r.part) t9⟩ (Jf1 r mv (some (u9,j9))) _ hg) ?_
      apply AW.y rfl
      refine AW.c 1 U11 Tru ?_
      refine AW.g U11 Tru ?_
      apply Ja8
      apply J2
      refine AW.g U11 Tru ?_
      apply Jc2
      have hwi:IntKind.i64.wrap ((i:Int)+1)=(i:Int)+1:=wi (by omega)
      refine ⟨i+1,by omega,by omega,?_⟩
      try simp only [Jb1,Ja2,push_cast,simprocAttr,U11,hwi,hstep]
      exact Weak.to (extra:=_) (by simp only [KS,simprocAttr,hwi,hstep]) (by first|rfl|(simp only [List.append_assoc,List.cons_append,List.nil_append];rfl)) (by first|rfl|(simp [AV.below,CV.below];done)|(simp [AV.below,CV.below];omega)) (by exact MWf.app (hwf.grow (by simp)) (Ja0 (by simp [CV.below];omega) (Ja0 rfl (Ja0 rfl (Ja0 rfl (Ja0 (Jg9 _ _) (Ja0 (by simp [CV.below]) (Ja0 rfl Jb7))))))))
     ·have hth:htC (Ju9 r (atM (mv i9) r.part) (some t9)).1=[.int .i64 t9,.int .i64 0,.int .i64 (Je4 r t9 0),.int .i64 (Je4 r t9 1),.int .i64 (Je4 r t9 2),.int .i64 (Jj8 r (atM (mv i9) r.part) t9 0),.int .i64 (Jj8 r (atM (mv i9) r.part) t9 1),.int .i64 (Jj8 r (atM (mv i9) r.part) t9 2)]:=rfl
      have htb:(Ju9 r (atM (mv i9) r.part) (some t9)).2=true:=rfl
      have hbh:htC (Jf1 r mv (some (t9,i9)))=[.int .i64 t9,.int .i64 (i9:Int),.int .i64 (Je4 r t9 0),.int .i64 (Je4 r t9 1),.int .i64 (Je4 r t9 2),.int .i64 (Jj8 r (atM (mv i9) r.part) t9 0),.int .i64 (Jj8 r (atM (mv i9) r.part) t9 1),.int .i64 (Jj8 r (atM (mv i9) r.part) t9 2)]:=rfl
      have ho9:Jr9 r (atM (mv i9) r.part) near (Jp0 far bi)=some t9:=ho
      have hfr:Jp0 far (some (t9,i9))=t9:=rfl
      have hdi:decide ((i9:Int)<(j9:Int))=true:=decide_eq_true (by omega)
      have q_4:=Kq9 r (mv i9) near (Jp0 far bi)
      rw [ho9,hs0] at q_4
      have U12:=ca4 U8 hs0 hth (ca4 htb hbh hfr hdi)
      refine AW.e [.rd 0,.val,.rd 0,.val,.val,.rd 0,.val,.val,.ext,.val,.val,.val,.fl,.wr,.val] fol U12 q_4 ?_
      apply J3
      have q_5:=Qd0 ⟨t9,(i9:Int),Je4 r t9,Jj8 r (atM (mv i9) r.part) t9⟩ (Jf1 r mv (some (u9,j9)))
      rw [show decide (HT.i ⟨t9,(i9:Int),Je4 r t9,Jj8 r (atM (mv i9) r.part) t9⟩ < (Jf1 r mv (some (u9,j9))).i)=true from hdi] at q_5
      refine AW.c 2 U12 (q_5 _ hg hg2) ?_
      apply AW.y rfl
      refine AW.c 1 U12 Tru ?_
      refine AW.g U12 Tru ?_
      apply Ja8
      apply J2
      refine AW.g U12 Tru ?_
      apply Jc2
      have hwi:IntKind.i64.wrap ((i:Int)+1)=(i:Int)+1:=wi (by omega)
      refine ⟨i+1,by omega,by omega,?_⟩
      try simp only [Jb1,Ja2,push_cast,simprocAttr,U12,hwi,hstep]
      exact Weak.to (extra:=_) (by simp only [KS,simprocAttr,hwi,hstep]) (by first|rfl|(simp only [List.append_assoc,List.cons_append,List.nil_append];rfl)) (by first|rfl|(simp [AV.below,CV.below];done)|(simp [AV.below,CV.below];omega)) (by exact MWf.app (hwf.grow (by simp)) (Ja0 (by simp [CV.below];omega) (Ja0 rfl (Ja0 rfl (Ja0 rfl (Ja0 (Jg9 _ _) (Ja0 (by simp [CV.below]) (Ja0 rfl Jb7))))))))
     ·have hth:htC (Ju9 r (atM (mv i9) r.part) (some t9)).1=[.int .i64 t9,.int .i64 0,.int .i64 (Je4 r t9 0),.int .i64 (Je4 r t9 1),.int .i64 (Je4 r t9 2),.int .i64 (Jj8 r (atM (mv i9) r.part) t9 0),.int .i64 (Jj8 r (atM (mv i9) r.part) t9 1),.int .i64 (Jj8 r (atM (mv i9) r.part) t9 2)]:=rfl
      have htb:(Ju9 r (atM (mv i9) r.part) (some t9)).2=true:=rfl
      have hbh:htC (Jf1 r mv (some (t9,i9)))=[.int .i64 t9,.int .i64 (i9:Int),.int .i64 (Je4 r t9 0),.int .i64 (Je4 r t9 1),.int .i64 (Je4 r t9 2),.int .i64 (Jj8 r (atM (mv i9) r.part) t9 0),.int .i64 (Jj8 r (atM (mv i9) r.part) t9 1),.int .i64 (Jj8 r (atM (mv i9) r.part) t9 2)]:=rfl
      have ho9:Jr9 r (atM (mv i9) r.part) near (Jp0 far bi)=some t9:=ho
      have hdi:decide ((i9:Int)<(j9:Int))=false:=decide_eq_false (by omega)
      have q_6:=Kq9 r (mv i9) near (Jp0 far bi)
      rw [ho9,hs0] at q_6
      have U13:=ca4 U8 hs0 hth (ca3 htb hbh hdi)
      refine AW.e [.rd 0,.val,.rd 0,.val,.val,.rd 0,.val,.val,.ext,.val,.val,.val,.fl,.wr,.val] fol U13 q_6 ?_
      apply J3
      have q_7:=Qd0 ⟨t9,(i9:Int),Je4 r t9,Jj8 r (atM (mv i9) r.part) t9⟩ (Jf1 r mv (some (u9,j9)))
      rw [show decide (HT.i ⟨t9,(i9:Int),Je4 r t9,Jj8 r (atM (mv i9) r.part) t9⟩ < (Jf1 r mv (some (u9,j9))).i)=false from hdi] at q_7
      refine AW.c 2 U13 (q_7 _ hg hg2) ?_
      apply AW.x rfl
      apply AW.z
      apply Ja8
      apply J2
      refine AW.g U13 Tru ?_
      apply Jc2
      have hwi:IntKind.i64.wrap ((i:Int)+1)=(i:Int)+1:=wi (by omega)
      refine ⟨i+1,by omega,by omega,?_⟩
      try simp only [Jb1,Ja2,push_cast,simprocAttr,U13,hwi,hstep]
      exact Weak.to (extra:=_) (by simp only [KS,simprocAttr,hwi,hstep]) (by first|rfl|(simp only [List.append_assoc,List.cons_append,List.nil_append];rfl)) (by first|rfl|(simp [AV.below,CV.below];done)|(simp [AV.below,CV.below];omega)) (by exact MWf.app (hwf.grow (by simp)) (Ja0 (by simp [CV.below];omega) (Ja0 rfl (Ja0 rfl (Ja0 rfl (Ja0 (Jg9 _ _) (Ja0 (by simp [CV.below]) (Ja0 rfl Jb7))))))))
     have hth:htC (Ju9 r (atM (mv i9) r.part) (some t9)).1=[.int .i64 t9,.int .i64 0,.int .i64 (Je4 r t9 0),.int .i64 (Je4 r t9 1),.int .i64 (Je4 r t9 2),.int .i64 (Jj8 r (atM (mv i9) r.part) t9 0),.int .i64 (Jj8 r (atM (mv i9) r.part) t9 1),.int .i64 (Jj8 r (atM (mv i9) r.part) t9 2)]:=rfl
     have htb:(Ju9 r (atM (mv i9) r.part) (some t9)).2=true:=rfl
     have hbh:htC (Jf1 r mv (some (t9,i9)))=[.int .i64 t9,.int .i64 (i9:Int),.int .i64 (Je4 r t9 0),.int .i64 (Je4 r t9 1),.int .i64 (Je4 r t9 2),.int .i64 (Jj8 r (atM (mv i9) r.part) t9 0),.int .i64 (Jj8 r (atM (mv i9) r.part) t9 1),.int .i64 (Jj8 r (atM (mv i9) r.part) t9 2)]:=rfl
     have ho9:Jr9 r (atM (mv i9) r.part) near (Jp0 far bi)=some t9:=ho
     have q_8:=Kq9 r (mv i9) near (Jp0 far bi)
     rw [ho9,hs0] at q_8
     have U14:=ca4 U8 hs0 hth (ca2 htb hbh)
     refine AW.e [.rd 0,.val,.rd 0,.val,.val,.rd 0,.val,.val,.ext,.val,.val,.val,.fl,.wr,.val] fol U14 q_8 ?_
     apply J3
     refine AW.c 2 U14 (Vg2 ⟨t9,(i9:Int),Je4 r t9,Jj8 r (atM (mv i9) r.part) t9⟩ (Jf1 r mv (some (u9,j9))) _ hg hg2) ?_
     apply AW.x rfl
     apply AW.z
     apply Ja8
     apply J2
     refine AW.g U14 Tru ?_
     apply Jc2
     have hwi:IntKind.i64.wrap ((i:Int)+1)=(i:Int)+1:=wi (by omega)
     refine ⟨i+1,by omega,by omega,?_⟩
     try simp only [Jb1,Ja2,push_cast,simprocAttr,U14,hwi,hstep]
     exact Weak.to (extra:=_) (by simp only [KS,simprocAttr,hwi,hstep]) (by first|rfl|(simp only [List.append_assoc,List.cons_append,List.nil_append];rfl)) (by first|rfl|(simp [AV.below,CV.below];done)|(simp [AV.below,CV.below];omega)) (by exact MWf.app (hwf.grow (by simp)) (Ja0 (by simp [CV.below];omega) (Ja0 rfl (Ja0 rfl (Ja0 rfl (Ja0 (Jg9 _ _) (Ja0 (by simp [CV.below]) (Ja0 rfl Jb7))))))))
    have hin:i=w9:=by have:=of_decide_eq_false h87;omega
    rw [hin]
    apply AW.v
    apply Jb0
    apply Jb0
    apply Ja6
    apply Ja8
    apply J1
    rcases stk with _|⟨x8,stk8⟩
    ·have hNx:=hfi.pop0 (ver':=ver) w1 (by show 0<((TR.leaf at',a,c):TR × Nat × Nat).1.size+0;omega) (fun f=>by rw [hw9];exact Qb2 hm2)
     have hmu:muF ⟨none,[],(Jq5 (Hq r mv near far) o a b w9),ver,cnt⟩ < muF ⟨some ((TR.leaf at',a,c):TR × Nat × Nat),[],b,ver,cnt⟩:=by show 0<((TR.leaf at',a,c):TR × Nat × Nat).1.size+0;omega
     refine AW.rg ?_
     simp only [push_cast,simprocAttr,U7]
     refine CThen.by (Vc1 (m.length+5) (m.length+4) ver 0 (cnt:Int) [] _ (by (simp only [push_cast,simprocAttr])<;>rfl) (by (simp only [push_cast,simprocAttr])<;>rfl) (by omega) rfl) ?_
     simp only [push_cast,simprocAttr,U7]
     apply Jc2
     refine ⟨_,hNx,hmu,?_⟩
     try simp only [Jb1,Ja2,push_cast,simprocAttr,U7,Option.isSome_none,Option.isSome_some,qR,Int.natCast_add,Int.natCast_one,List.length_cons,List.length_nil]
     exact Weak.to (extra:=_) (by simp only [KS,simprocAttr,Option.isSome_none,Option.isSome_some,qR,Int.natCast_add,Int.natCast_one,List.length_cons,List.length_nil]) (by first|rfl|(simp only [List.append_assoc,List.cons_append,List.nil_append];rfl)) (by first|rfl|(simp [AV.below,CV.below];done)|(simp [AV.below,CV.below];omega)) (by exact MWf.app (hwf.grow (by simp)) (Ja0 (by simp [CV.below];omega) (Ja0 rfl (Ja0 rfl (Ja0 rfl (Ja0 (Jg9 _ _) (Ja0 (by simp [CV.below]) Jb7)))))))
    have hNx:=hfi.pop1 (ver':=ver) w1 (by show x8.1.size+Jz6 stk8<((TR.leaf at',a,c):TR × Nat × Nat).1.size+(x8.1.size+Jz6 stk8);omega) (fun f=>by rw [hw9];exact Qb2 hm2)
    have hmu:muF ⟨some x8,stk8,(Jq5 (Hq r mv near far) o a b w9),ver,cnt+1⟩ < muF ⟨some ((TR.leaf at',a,c):TR × Nat × Nat),x8::stk8,b,ver,cnt⟩:=by show x8.1.size+Jz6 stk8<((TR.leaf at',a,c):TR × Nat × Nat).1.size+(x8.1.size+Jz6 stk8);omega
    have hl8:(x8::stk8).length=(rtL stk8).length+1:=by rw [Ke6];rfl
    have hl9:=Ke6 stk8
    have hrc:=Ku1 x8 stk8
    have hl7:stk8.length<=1000000:=by have:(x8::stk8).length<=_:=hsl;simp only [List.length_cons] at this;omega
    refine AW.rg ?_
    simp only [push_cast,simprocAttr,U7,hl8,hrc,hl9]
    refine CThen.by (Kv3 (m.length+5) (m.length+4) ver (cnt:Int) (rtL stk8) x8.1.root _ (by (simp only [push_cast,simprocAttr,hl9])<;>rfl) (by (simp only [push_cast,simprocAttr,hrc])<;>rfl) (by omega) (by omega) (by omega)) ?_
    simp only [push_cast,simprocAttr,U7,hl8,hrc,hl9]
    apply Jc2
    refine ⟨_,hNx,hmu,?_⟩
    try simp only [Jb1,Ja2,push_cast,simprocAttr,U7,hl8,hrc,hl9,Option.isSome_none,Option.isSome_some,qR,Int.natCast_add,Int.natCast_one,List.length_cons,List.length_nil]
    exact Weak.to (extra:=_) (by simp only [KS,simprocAttr,Option.isSome_none,Option.isSome_some,qR,Int.natCast_add,Int.natCast_one,List.length_cons,List.length_nil]) (by first|rfl|(simp only [List.append_assoc,List.cons_append,List.nil_append];rfl)) (by first|rfl|(simp [AV.below,CV.below];done)|(simp [AV.below,CV.below];omega)) (by exact MWf.app (hwf.grow (by simp)) (Ja0 (by simp [CV.below];omega) (Ja0 rfl (Ja0 rfl (Ja0 rfl (Ja0 (Jg9 _ _) (Ja0 (by simp [CV.below]) Jb7)))))))
   have hm2:Ju4 (atP (Jy3 nds at').p r.part) (Jz7 r near (Jp0 far b)):=by simpa [hnd,TR.root] using hme
   have hnc:¬(0:Int)<nd.count:=by rw [hnd];show ¬0<(Jy3 nds at').count;omega
   have hnl9:nd.left=(l.root:Int):=by rw [hnd];exact k2
   have hnr9:nd.right=(r'.root:Int):=by rw [hnd];exact k3
   have hsq:TR.size (.node at' l r')=l.size+r'.size+1:=rfl
   have q1:stk.length<=140737488355326:=by omega
   obtain ⟨l9,hl99⟩:∃ l9,l9=rtL stk++[r'.root]:=⟨_,rfl⟩
   have q2:(stk.length+2)*8<=140737488355328:=by omega
   have hap:iC (rtL stk)++[.int .i64 (r'.root:Int),.int .i64 (l.root:Int)]=iC (l9++[l.root]):=by rw [hl99,<-Jx6,<-Jx6,List.append_assoc];rfl
   have hgl:(iC (rtL stk)).length=stk.length:=by rw [Jg8,Ke6]
   have hl8:l9.length=stk.length+1:=by rw [hl99,List.length_append,Ke6];rfl
   subst km
   have hrc:rtL ((r',a+Qp0 (Jy3 nds) l,c)::stk)=l9:=by rw [hl99];exact Ku1 _ _
   have hNx:=hfi.pop1 (ver':=ver+1) w9 (by show l.size+(r'.size+Jz6 stk)<(l.size+r'.size+1)+Jz6 stk;omega) (fun f=>Vd2 hm2)
   have hmu:muF ⟨some (l,a,a+Qp0 (Jy3 nds) l),(r',a+Qp0 (Jy3 nds) l,c)::stk,b,ver+1,cnt+1⟩ < muF ⟨some (.node at' l r',a,c),stk,b,ver,cnt⟩:=by show l.size+(r'.size+Jz6 stk)<(l.size+r'.size+1)+Jz6 stk;omega
   have U15:=ca4 U6 hnc hnl9 (ca4 hnr9 q1 q2 (ca4 hgl hap hl8 hrc))
   refine AW.g U15 (Qk7 nd.p _ _ _ _ _) ?_
   apply J3
   apply AW.y rfl
   refine AW.d [.val,.val,.val,.val,.rd 0,.val,.rd 0,.val,.rd 0,.ext,.wr,.val,.val,.wr] fol U15 Tru ?_
   apply AW.v
   apply Jb0
   apply Ja6
   apply J1
   refine AW.rg ?_
   simp only [push_cast,simprocAttr,U15]
   refine CThen.by (Kv3 (m.length+5) (m.length+4) (ver+1) (cnt:Int) l9 l.root _ (by (simp only [push_cast,simprocAttr,hl8])<;>rfl) (by (simp only [push_cast,simprocAttr,hap])<;>rfl) (by omega) (by omega) (by omega)) ?_
   simp only [push_cast,simprocAttr,U15]
   apply Jc2
   refine ⟨_,hNx,hmu,?_⟩
   try simp only [Jb1,Ja2,push_cast,simprocAttr,U15,Option.isSome_none,Option.isSome_some,qR,Int.natCast_add,Int.natCast_one,List.length_cons,List.length_nil]
   exact Weak.to (extra:=_) (by simp only [KS,simprocAttr,Option.isSome_none,Option.isSome_some,qR,Int.natCast_add,Int.natCast_one,List.length_cons,List.length_nil]) (by first|rfl|(simp only [List.append_assoc,List.cons_append,List.nil_append];rfl)) (by first|rfl|(simp [AV.below,CV.below];done)|(simp [AV.below,CV.below];omega)) (by exact MWf.app (hwf.grow (by simp)) (Ja0 (by simp [CV.below];omega) (Ja0 rfl (Ja0 rfl (Ja0 rfl (Ja0 (Jg9 _ _) (Ja0 (by simp [CV.below]) Jb7)))))))
  have hmb:(false=true)↔Ju4 (atP nd.p r.part) (Jz7 r near (Jp0 far b)):=by rw [hnd];exact ⟨fun h=>(nomatch h),fun h=>(hme h).elim⟩
  refine AW.e [.val,.rd 0,.val,.rd 0,.ext,.rd 0,.val,.val,.ext,.ext,.val] fol U6 (ca3 (Xr5 nd.p r.part) (Qa0 r near (Jp0 far b)) (Vd0 (atP nd.p r.part) (Jz7 r near (Jp0 far b)) _ false hmb)) ?_
  apply J3
  apply AW.y rfl
  apply AW.v
  apply Jb0
  apply Ja6
  apply J1
  rcases stk with _|⟨x8,stk8⟩
  ·have hNx:=hfi.pop0 (ver':=ver) (w0.missN hme) (by show 0<e.1.size+0;omega) (fun f=>Qb1 hme)
   have hmu:muF ⟨none,[],b,ver,cnt⟩ < muF ⟨some e,[],b,ver,cnt⟩:=by show 0<e.1.size+0;omega
   refine AW.rg ?_
   simp only [push_cast,simprocAttr,U6]
   refine CThen.by (Vc1 (m.length+5) (m.length+4) ver 0 (cnt:Int) [] _ (by (simp only [push_cast,simprocAttr])<;>rfl) (by (simp only [push_cast,simprocAttr])<;>rfl) (by omega) rfl) ?_
   simp only [push_cast,simprocAttr,U6]
   apply Jc2
   refine ⟨_,hNx,hmu,?_⟩
   try simp only [Jb1,Ja2,push_cast,simprocAttr,U6,Option.isSome_none,Option.isSome_some,qR,Int.natCast_add,Int.natCast_one,List.length_cons,List.length_nil]
   exact Weak.to (extra:=_) (by simp only [KS,simprocAttr,Option.isSome_none,Option.isSome_some,qR,Int.natCast_add,Int.natCast_one,List.length_cons,List.length_nil]) (by first|rfl|(simp only [List.append_assoc,List.cons_append,List.nil_append];rfl)) (by first|rfl|(simp [AV.below,CV.below];done)|(simp [AV.below,CV.below];omega)) (by exact MWf.app (hwf.grow (by simp)) (Ja0 (by simp [CV.below];omega) (Ja0 rfl (Ja0 rfl (Ja0 rfl (Ja0 (Jg9 _ _) (Ja0 (by simp [CV.below]) Jb7)))))))
  have hNx:=hfi.pop1 (ver':=ver) (w0.missN hme) (by show x8.1.size+Jz6 stk8<e.1.size+(x8.1.size+Jz6 stk8);omega) (fun f=>Qb1 hme)
  have hmu:muF ⟨some x8,stk8,b,ver,cnt+1⟩ < muF ⟨some e,x8::stk8,b,ver,cnt⟩:=by show x8.1.size+Jz6 stk8<e.1.size+(x8.1.size+Jz6 stk8);omega
  have hl8:(x8::stk8).length=(rtL stk8).length+1:=by rw [Ke6];rfl
  have hl9:=Ke6 stk8
  have hrc:=Ku1 x8 stk8
  have hl7:stk8.length<=1000000:=by have:(x8::stk8).length<=_:=hsl;simp only [List.length_cons] at this;omega
  refine AW.rg ?_
  simp only [push_cast,simprocAttr,U6,hl8,hrc,hl9]
  refine CThen.by (Kv3 (m.length+5) (m.length+4) ver (cnt:Int) (rtL stk8) x8.1.root _ (by (simp only [push_cast,simprocAttr,hl9])<;>rfl) (by (simp only [push_cast,simprocAttr,hrc])<;>rfl) (by omega) (by omega) (by omega)) ?_
  simp only [push_cast,simprocAttr,U6,hl8,hrc,hl9]
  apply Jc2
  refine ⟨_,hNx,hmu,?_⟩
  try simp only [Jb1,Ja2,push_cast,simprocAttr,U6,hl8,hrc,hl9,Option.isSome_none,Option.isSome_some,qR,Int.natCast_add,Int.natCast_one,List.length_cons,List.length_nil]
  exact Weak.to (extra:=_) (by simp only [KS,simprocAttr,Option.isSome_none,Option.isSome_some,qR,Int.natCast_add,Int.natCast_one,List.length_cons,List.length_nil]) (by first|rfl|(simp only [List.append_assoc,List.cons_append,List.nil_append];rfl)) (by first|rfl|(simp [AV.below,CV.below];done)|(simp [AV.below,CV.below];omega)) (by exact MWf.app (hwf.grow (by simp)) (Ja0 (by simp [CV.below];omega) (Ja0 rfl (Ja0 rfl (Ja0 rfl (Ja0 (Jg9 _ _) (Ja0 (by simp [CV.below]) Jb7)))))))
 have hsn:sq=none:=by cases sq with
   | none=>rfl
   | some _=>cases h35
 subst hsn
 have hstk:stk=[]:=hfi.z rfl
 subst hstk
 have hbe:b=Jh1 (Hq r mv near far) n:=hfi.w.all hop
 have hTe:cnt=T:=by
   obtain ⟨f,_,h2⟩:=hfi.k
   have h2':cnt+Jz1 nds o r mv near far f [] b=T+0:=h2
   rw [Vp5] at h2';omega
 rw [hbe,hTe]
 apply AW.v
 apply Jb0
 apply Jb0
 apply Ja6
 apply J0
 refine AW.d [.rd 0,.val,.val,.val,.val,.rw 0,.wr,.val,.val] fol U5 Tru ?_
 exact AW.ret (hQ _ _ _ (RetP.z hwf Tru))
theorem Vr2 (r:RY)(mv:Nat->MV)(sb sv n:Nat)(near far:Int)(m:Ja1)(h0:n=0):Ctr Tryz.prog 50 [.agg [.nils,.nils,.sl sb sv 0 n],.agg (ryC r),.one (.int .i64 near),.one (.int .i64 far)] m (.tup [(true,htC (Jf1 r mv (Jh1 (Hq r mv near far) n))),(false,[.bool (Jh1 (Hq r mv near far) n).isSome]),(false,[.int .i64 ((0:Nat):Int)])]) m:=by
 refine Ctr.en Tryz.func50 [.cell 8 165,.tmp 9,.tmp 10] 124 fun hwf Q hQ=>?_
 subst h0
 have hv:htC (Jf1 r mv (Jh1 (Hq r mv near far) 0))=[.int .i64 0,.int .i64 0,.int .i64 0,.int .i64 0,.int .i64 0,.int .i64 0,.int .i64 0,.int .i64 0]:=rfl
 have hv2:(Jh1 (Hq r mv near far) 0).isSome=false:=rfl
 rw [hv,hv2] at hQ
 have U16:=ca2 @Jh4 @Ja4
 refine AW.c 3 U16 Tru ?_
 refine AW.q fun K J0=>?_
 refine AW.c 1 U16 Tru ?_
 apply AW.y rfl
 refine AW.c 1 U16 Tru ?_
 exact AW.ret (hQ _ _ _ (RetP.z hwf Tru))
theorem Xi2 (mv:Nat->MV)(nb nv ob ov sb sv n:Nat)(m:Ja1)(h0:0<n)(hn:n<=400000)(hnb:∃ k ez,m[nb]?=some ⟨k,255,nv,ez,ndL (Jj0 (prM mv) n).2⟩)(hob:∃ k ez,m[ob]?=some ⟨k,3,ov,ez,iC (Jj0 (prM mv) n).1⟩)(hsb:∃ k ez,m[sb]?=some ⟨k,204,sv,ez,Jb6 n (mF mv)⟩):∃ TF:RY->Int->Int->Nat,∀ (L:Ja1) (r:RY) (near far:Int),Ctr Tryz.prog 50 [.agg [.sl nb nv 0 (Jj0 (prM mv) n).2.length,.sl ob ov 0 n,.sl sb sv 0 n],.agg (ryC r),.one (.int .i64 near),.one (.int .i64 far)] (m++L) (.tup [(true,htC (Jf1 r mv (Jh1 (Hq r mv near far) n))),(false,[.bool (Jh1 (Hq r mv near far) n).isSome]),(false,[.int .i64 ((TF r near far:Nat):Int)])]) (m++L):=by
 obtain ⟨t,h1,h2,h3,h4,h5,h6⟩:=Vj1 (prM mv) h0
 refine ⟨fun r near far=>Jz1 (Jj0 (prM mv) n).2 (Jj0 (prM mv) n).1 r mv near far (2*n) [(t,0,n)] none,fun L r near far=>?_⟩
 exact Xi1 r mv nb nv ob ov sb sv n _ t _ _ near far (m++L) (by obtain ⟨k,e,q⟩:=hnb;exact ⟨k,e,Ja5 q L⟩) (by obtain ⟨k,e,q⟩:=hob;exact ⟨k,e,Ja5 q L⟩) (by obtain ⟨k,e,q⟩:=hsb;exact ⟨k,e,Ja5 q L⟩) hn (by omega) h1 h2 h3 rfl
def Jv2 (u v:Int):Int:=if 65536<Jb9 u+Jb9 v then 65536 - Jb9 u else Jb9 u
def Jw4 (u v:Int):Int:=if 65536<Jb9 u+Jb9 v then 65536 - Jb9 v else Jb9 v
noncomputable def Ke3 (P:PL)(u v:Int):V :=
 if P.kind=0 then Jd9 (P.P 0) (Je1 (Jk2 u v) P.r)
 else Jd9 (Jd9 (Jd9 z0V (P.P 0)) (Je1 (Jb4 (P.P 1) (P.P 0)) (Jv2 u v))) (Je1 (Jb4 (P.P 2) (P.P 0)) (Jw4 u v))
structure TN where
 (d l:V) (g s:Bool)
def tnC (t:TN):List CV:=c3C t.d++(c3C t.l++[.bool t.g,.bool t.s])
def tn0:TN:=⟨fun _=>0,fun _=>0,false,false⟩
noncomputable def Jk7 (k ro:Int)(d n:V)(u v:Int):V:=if k=0 then Jk6 n u v else if k=1 then Jb8 (Kh7 d n) else Jb8 (Jd9 (Kh7 d n) (Je1 (Jk6 n u v) ro))
noncomputable def Jr0 (k:Int)(c:V)(ro:Int)(d n:V)(u v:Int):TN :=
 if k≠0/\k≠1/\k≠2 then tn0 else if Je9 (Jk7 k ro d n u v) n<=0 then tn0 else ⟨Jk7 k ro d n u v,c,true,!(k ==0)⟩
structure KY where
 (sd fr px sm:Int)
noncomputable def KY.u (k:KY)(i:Int):Int:=Qg0 k.sd k.fr k.px k.sm i
def kyC (k:KY):List CV:=Jn5 k.sd k.fr k.px k.sm
structure WD where
 (mv:Nat->MV) (n:Nat) (kd:Nat->Int) (cl:Nat->V) (ro:Nat->Int) (lm:List Nat) (sky:V) (dp:Nat)
noncomputable def Js0 (w:WD)(r:RY)(near far:Int):Option (Int × Nat):=Jh1 (Hq r w.mv near far) w.n
noncomputable def Qb4 (w:WD)(k:KY)(d:Int):Nat:=w.lm.getD (Jo9 k.sd k.fr k.px k.sm d (w.lm.length:Int)).toNat 0
noncomputable def Qb3 (w:WD)(k:KY)(d:Int)(at':Int):V:=Ke3 (atM (w.mv (Qb4 w k d)) at') (k.u (d+1)) (k.u (d+2))
noncomputable def Xh1 (w:WD)(k:KY)(d:Int)(h:HT)(at':Int):Option (Int × Nat):=Js0 w ⟨h.p,Jb8 (Jb4 (Qb3 w k d at') h.p),at'⟩ 1024 (Kb2 (Jb4 (Qb3 w k d at') h.p))
def Xt0 (i:Nat):Option (Int × Nat)->Bool
 | none=>false
 | some (_,j)=>!(j ==i)
noncomputable def Jm8 (w:WD)(k:KY)(d:Int)(h:HT)(hi:Nat)(at':Int):V :=
 if w.lm=[] then z0V else if Qb4 w k d=hi then z0V else if Jr6 h.p h.n (Qb3 w k d at')=0 then z0V else
  if Xt0 (Qb4 w k d) (Xh1 w k d h at')=true then z0V else Je1 (Je2 (w.cl hi) (w.cl (Qb4 w k d))) (Je0 (Jr6 h.p h.n (Qb3 w k d at')) (ofI (w.lm.length:Int)))
structure SN where
 (li:V) (dep:Int) (no po ba:V) (sh pt:Int)
def snC (s:SN):List CV:=c3C s.li++(.int .i64 s.dep::(c3C s.no++(c3C s.po++(c3C s.ba++[.int .i64 s.sh,.int .i64 s.pt]))))
theorem Kj1 (s:SN):snC s=[.int .i64 (s.li 0),.int .i64 (s.li 1),.int .i64 (s.li 2),.int .i64 (s.dep),.int .i64 (s.no 0),.int .i64 (s.no 1),.int .i64 (s.no 2),.int .i64 (s.po 0),.int .i64 (s.po 1),.int .i64 (s.po 2),.int .i64 (s.ba 0),.int .i64 (s.ba 1),.int .i64 (s.ba 2),.int .i64 (s.sh),.int .i64 (s.pt)]:=rfl
structure TS where
 (s:SN) (w:V) (sharp:Bool) (r:RY)
noncomputable def Kd9 (w:WD)(r:RY)(t:Int)(i:Nat):HT:=⟨t,(i:Int),Je4 r t,Jj8 r (atM (w.mv i) r.part) t⟩
noncomputable def Jz0 (w:WD)(b:Nat)(s:SN)(h:HT)(i:Nat):SN:=if b=0 then ⟨s.li,h.t,h.n,h.p,w.cl i,(i:Int),s.pt⟩ else s
def SN.add (s:SN)(l:V):SN:=⟨Jd9 s.li l,s.dep,s.no,s.po,s.ba,s.sh,s.pt⟩
noncomputable def liS (w:WD)(k:KY)(d:Int)(s:TS)(sn:SN)(h:HT)(i:Nat):SN:=if w.kd i=0 then sn.add (Je2 s.w (Jm8 w k d h i sn.pt)) else sn
noncomputable def Kb3 (w:WD)(k:KY)(d:Int)(s:TS)(h:HT)(i:Nat):TN:=Jr0 (w.kd i) (w.cl i) (w.ro i) s.r.d h.n (k.u (d+3)) (k.u (d+4))
noncomputable def Jv0 (w:WD)(k:KY)(b:Nat)(d:Int)(s:TS):SN ⊕ TS :=
 match Js0 w s.r 1024 2147483648 with
 | none=>.inl (s.s.add (Je2 s.w w.sky))
 | some (t,i) =>
  if w.kd i=3 then .inl (if s.sharp=true then (Jz0 w b s.s (Kd9 w s.r t i) i).add (Je2 s.w (w.cl i)) else Jz0 w b s.s (Kd9 w s.r t i) i)
  else if (Kb3 w k d s (Kd9 w s.r t i) i).g=false then .inl (liS w k d s (Jz0 w b s.s (Kd9 w s.r t i) i) (Kd9 w s.r t i) i)
  else if b=0 then .inr ⟨liS w k d s (Jz0 w b s.s (Kd9 w s.r t i) i) (Kd9 w s.r t i) i,Je2 s.w (Kb3 w k d s (Kd9 w s.r t i) i).l,(Kb3 w k d s (Kd9 w s.r t i) i).s,⟨(Kd9 w s.r t i).p,(Kb3 w k d s (Kd9 w s.r t i) i).d,s.s.pt⟩⟩
  else if Kv5 (Je2 s.w (Kb3 w k d s (Kd9 w s.r t i) i).l)<=Jb9 (k.u (d+5)) then .inl (liS w k d s (Jz0 w b s.s (Kd9 w s.r t i) i) (Kd9 w s.r t i) i)
  else .inr ⟨liS w k d s (Jz0 w b s.s (Kd9 w s.r t i) i) (Kd9 w s.r t i) i,Jn8 (Je2 s.w (Kb3 w k d s (Kd9 w s.r t i) i).l) (k.u (d+5)),(Kb3 w k d s (Kd9 w s.r t i) i).s,⟨(Kd9 w s.r t i).p,(Kb3 w k d s (Kd9 w s.r t i) i).d,s.s.pt⟩⟩
noncomputable def Jw1 (w:WD)(k:KY):Nat->Nat->TS->SN
 | 0,_,s=>s.s
 | f+1,b,s=>match Jv0 w k b (3+8*(b:Int)) s with
  | .inl x=>x
  | .inr s'=>Jw1 w k f (b+1) s'
theorem Kx9 {w:WD}{k:KY}{b:Nat}{s:TS}{n:Nat}(h:n<=b):Jw1 w k (n - b) b s=s.s:=by
 rw [show n - b=0 by omega];rfl
theorem Jj1 {w:WD}{k:KY}{b:Nat}{s:TS}{n:Nat}{x:SN}(hb:b<n)(h:Jv0 w k b (3+8*(b:Int)) s=.inl x):Jw1 w k (n - b) b s=x:=by
 rw [show n - b=(n - (b+1))+1 by omega]
 show (match Jv0 w k b (3+8*(b:Int)) s with | .inl x=>x | .inr s'=>_)=x
 rw [h]
theorem Kb6 {w:WD}{k:KY}{b:Nat}{s s':TS}{n:Nat}(hb:b<n)(h:Jv0 w k b (3+8*(b:Int)) s=.inr s'):Jw1 w k (n - b) b s=Jw1 w k (n - (b+1)) (b+1) s':=by
 rw [show n - b=(n - (b+1))+1 by omega]
 show (match Jv0 w k b (3+8*(b:Int)) s with | .inl x=>x | .inr s'=>_)=_
 rw [h]
section
variable {w:WD}{k:KY}{b:Nat}{d:Int}{s:TS}{t:Int}{i:Nat}{h:HT}{sn1 sn2:SN}{T:TN}
theorem Kj0 (hF:Js0 w s.r 1024 2147483648=none):Jv0 w k b d s=.inl (s.s.add (Je2 s.w w.sky)):=by unfold Jv0;rw [hF]
theorem Ky2 (hF:Js0 w s.r 1024 2147483648=some (t,i))(hh:Kd9 w s.r t i=h)(h1:Jz0 w b s.s h i=sn1)(h3:w.kd i=3)(hs:s.sharp=true):Jv0 w k b d s=.inl (sn1.add (Je2 s.w (w.cl i))):=by
 subst hh h1
 unfold Jv0;rw [hF];dsimp only;rw [if_pos h3,if_pos hs]
theorem Ky3 (hF:Js0 w s.r 1024 2147483648=some (t,i))(hh:Kd9 w s.r t i=h)(h1:Jz0 w b s.s h i=sn1)(h3:w.kd i=3)(hs:s.sharp=false):Jv0 w k b d s=.inl sn1:=by
 subst hh h1
 unfold Jv0;rw [hF];dsimp only;rw [if_pos h3,if_neg (by rw [hs];decide)]
theorem Ky1 (hF:Js0 w s.r 1024 2147483648=some (t,i))(hh:Kd9 w s.r t i=h)(h1:Jz0 w b s.s h i=sn1)(h2:liS w k d s sn1 h i=sn2)(hT:Kb3 w k d s h i=T)(h3:¬w.kd i=3)(hg:T.g=false):Jv0 w k b d s=.inl sn2:=by
 subst hh h1 h2 hT
 unfold Jv0;rw [hF];dsimp only;rw [if_neg h3,if_pos hg]
theorem Qh8 (hF:Js0 w s.r 1024 2147483648=some (t,i))(hh:Kd9 w s.r t i=h)(h1:Jz0 w b s.s h i=sn1)(h2:liS w k d s sn1 h i=sn2)(hT:Kb3 w k d s h i=T)(h3:¬w.kd i=3)(hg:T.g=true)(hb:b=0):Jv0 w k b d s=.inr ⟨sn2,Je2 s.w T.l,T.s,⟨h.p,T.d,s.s.pt⟩⟩:=by
 subst hh h1 h2 hT
 unfold Jv0;rw [hF];dsimp only;rw [if_neg h3,if_neg (by rw [hg];decide),if_pos hb]
theorem Ky4 (hF:Js0 w s.r 1024 2147483648=some (t,i))(hh:Kd9 w s.r t i=h)(h1:Jz0 w b s.s h i=sn1)(h2:liS w k d s sn1 h i=sn2)(hT:Kb3 w k d s h i=T)(h3:¬w.kd i=3)(hg:T.g=true)(hb:¬b=0)(hl:Kv5 (Je2 s.w T.l)<=Jb9 (k.u (d+5))):Jv0 w k b d s=.inl sn2:=by
 subst hh h1 h2 hT
 unfold Jv0;rw [hF];dsimp only;rw [if_neg h3,if_neg (by rw [hg];decide),if_neg hb,if_pos hl]
theorem Qx0 (hF:Js0 w s.r 1024 2147483648=some (t,i))(hh:Kd9 w s.r t i=h)(h1:Jz0 w b s.s h i=sn1)(h2:liS w k d s sn1 h i=sn2)(hT:Kb3 w k d s h i=T)(h3:¬w.kd i=3)(hg:T.g=true)(hb:¬b=0)(hl:¬Kv5 (Je2 s.w T.l)<=Jb9 (k.u (d+5))):Jv0 w k b d s=.inr ⟨sn2,Jn8 (Je2 s.w T.l) (k.u (d+5)),T.s,⟨h.p,T.d,s.s.pt⟩⟩:=by
 subst hh h1 h2 hT
 unfold Jv0;rw [hF];dsimp only;rw [if_neg h3,if_neg (by rw [hg];decide),if_neg hb,if_neg hl]
end
def Jr3 (s:SC):Nat->List Nat
 | 0=>[]
 | i+1=>if glB s i then Jr3 s i++[i] else Jr3 s i
theorem Jx5 (s:SC):∀ n,iL (Jm6 (glB s) n)=iC (Jr3 s n)
 | 0=>rfl
 | n+1=>by
  have ih:=Jx5 s n
  show iL (if glB s n then Jm6 (glB s) n++[(n:Int)] else Jm6 (glB s) n)=iC (if glB s n then Jr3 s n++[n] else Jr3 s n)
  split
  ·rw [<-Jx6,<-ih];unfold iL;rw [List.map_append];rfl
  exact ih
theorem Kd2 (s:SC)(n:Nat):(Jm6 (glB s) n).length=(Jr3 s n).length:=by
 have h:=congrArg List.length (Jx5 s n)
 rw [Jg8] at h
 have:(iL (Jm6 (glB s) n)).length=(Jm6 (glB s) n).length:=by unfold iL;rw [List.length_map]
 omega
theorem Kv9 (s:SC):∀ (n:Nat) (i:Nat),i ∈ Jr3 s n->i<n
 | 0,_,h=>by cases h
 | n+1,i,h=>by
  have ih:=Kv9 s n i
  have h':i ∈ (if glB s n then Jr3 s n++[n] else Jr3 s n):=h
  split at h'
  ·rcases List.mem_append.1 h' with h'|h'
   ·have:=ih h';omega
   have:i=n:=by simpa using h'
   omega
  have:=ih h';omega
noncomputable def Jd3 (s:SC)(f:Int):WD:=⟨mvS s f,s.nx,fun i=>s.pk (s.xp i).toNat,fun i=>s.pc (s.xp i).toNat,fun i=>s.pr (s.xp i).toNat,Jr3 s s.nx,s.sk,s.dp.toNat⟩
def Qk4 (s:SC)(f x y sm:Int):KY:=⟨s.sd,f,y*s.w+x,sm⟩
def Ky6 (pt:Int):SN:=⟨fun _=>0,2147483648,fun _=>0,fun _=>0,fun _=>0,-1,pt⟩
theorem Xp2 (P:PL)(u v:Int)(m:Ja1)(hk:P.kind=0):Ctr Tryz.prog 131 [.agg (plC P),.one (.int .i64 u),.one (.int .i64 v)] m (.agg (c3C (Ke3 P u v))) m:=by
 refine Ctr.en Tryz.func131 [.cell 6 59] 55 fun hwf Q hQ=>?_
 have hv:Ke3 P u v=Jd9 (P.P 0) (Je1 (Jk2 u v) P.r):=if_pos hk
 rw [hv] at hQ
 have hkb:(P.kind ==0)=true:=beq_iff_eq.2 hk
 have U1:=ca3 @Jq4 @Ja4 hkb
 refine AW.c 1 U1 Tru ?_
 refine AW.q fun K J0=>?_
 refine AW.c 1 U1 Tru ?_
 apply AW.y rfl
 refine AW.d [.val,.val,.rd 0,.val,.val,.ext,.val,.rd 0,.ext,.ext,.wr] fol U1 (ca3 (Qf3 u v) (Jv1 (Jk2 u v) P.r) (Qg8 (P.P 0) (Je1 (Jk2 u v) P.r))) ?_
 exact AW.ret (hQ _ _ _ (RetP.z hwf Tru))
theorem Xp3 (P:PL)(u v:Int)(m:Ja1)(hk:¬P.kind=0):Ctr Tryz.prog 131 [.agg (plC P),.one (.int .i64 u),.one (.int .i64 v)] m (.agg (c3C (Ke3 P u v))) m:=by
 refine Ctr.en Tryz.func131 [.cell 6 59] 55 fun hwf Q hQ=>?_
 obtain ⟨D,hD⟩:∃ D,D=Jd9 (Jd9 (Jd9 z0V (P.P 0)) (Je1 (Jb4 (P.P 1) (P.P 0)) (Jv2 u v))) (Je1 (Jb4 (P.P 2) (P.P 0)) (Jw4 u v)):=⟨_,rfl⟩
 have hv:Ke3 P u v=D:=by rw [hD];exact if_neg hk
 rw [hv] at hQ
 have hkb:(P.kind ==0)=false:=by simpa using hk
 have b1:=Jt2 u
 have b2:=Jt2 v
 have w0:IntKind.i64.wrap (Jb9 u+Jb9 v)=Jb9 u+Jb9 v:=wi (by omega)
 have w1:IntKind.i64.wrap (65536 - Jb9 u)=65536 - Jb9 u:=wi (by omega)
 have w2:IntKind.i64.wrap (65536 - Jb9 v)=65536 - Jb9 v:=wi (by omega)
 have U2:=ca4 @Jq4 @Ja4 hkb (ca3 w0 w1 w2)
 refine AW.c 1 U2 Tru ?_
 refine AW.q fun K J0=>?_
 refine AW.c 1 U2 Tru ?_
 apply AW.x rfl
 apply AW.z
 apply J0
 refine AW.c 1 U2 Jz3 ?_
 refine AW.q fun K J0=>?_
 refine AW.c 1 U2 Tru ?_
 refine AW.condJ rfl [3,6] [(1,.one (.int .i64 (Jv2 u v))),(2,.one (.int .i64 (Jw4 u v)))] [] (fun h27=>?_) (fun h27=>?_) ?_
 ·have hA:Jv2 u v=65536 - Jb9 u:=if_pos (of_decide_eq_true h27)
  have hB:Jw4 u v=65536 - Jb9 v:=if_pos (of_decide_eq_true h27)
  refine AW.g U2 Tru ?_
  apply Jc2
  try simp only [Jb1,Ja2,push_cast,simprocAttr,U2,hA,hB]
  exact Weak.same (by simp only [KS,simprocAttr,hA,hB]) (by first|rfl|simp only [KS,simprocAttr,hA,hB])
 ·have hA:Jv2 u v=Jb9 u:=if_neg (of_decide_eq_false h27)
  have hB:Jw4 u v=Jb9 v:=if_neg (of_decide_eq_false h27)
  apply AW.z
  apply Jc2
  try simp only [Jb1,Ja2,push_cast,simprocAttr,U2,hA,hB]
  exact Weak.same (by simp only [KS,simprocAttr,hA,hB]) (by first|rfl|simp only [KS,simprocAttr,hA,hB])
 try simp only [Jb1,Ja2,push_cast,simprocAttr,U2]
 apply J0
 refine AW.q fun K J0=>?_
 refine AW.draw [.val,.val,.rd 0,.val,.val,.rd 0,.val,.val,.rd 0,.ext,.val,.ext,.val,.val,.rd 0,.val,.val,.rd 0,.ext,.val,.ext,.ext,.ext,.wr] fol (by decide) (by kernel_rfl) ?_
 simp only [push_cast,simprocAttr,U2]
 refine DCall.z (Jk4 (P.P 1) (P.P 0) _) ?_
 simp only [push_cast,simprocAttr,U2]
 refine DCall.z (Jv1 (Jb4 (P.P 1) (P.P 0)) (Jv2 u v) _) ?_
 simp only [push_cast,simprocAttr,U2]
 refine DCall.z (Jk4 (P.P 2) (P.P 0) _) ?_
 simp only [push_cast,simprocAttr,U2]
 refine DCall.z (Jv1 (Jb4 (P.P 2) (P.P 0)) (Jw4 u v) _) ?_
 simp only [push_cast,simprocAttr,U2]
 refine DExt.by (by first|rfl|exact (List.append_nil _).symm|(simp only [List.append_assoc,List.cons_append,List.nil_append];rfl)) ?_
 simp only [push_cast,simprocAttr,U2]
 refine DCall.z ((by have h9:=fun M r9 q=>Qd7 r9 0 (P.P 0 0) (P.P 0 1) (P.P 0 2) ((Je1 (Jb4 (P.P 1) (P.P 0)) (Jv2 u v)) 0) ((Je1 (Jb4 (P.P 1) (P.P 0)) (Jv2 u v)) 1) ((Je1 (Jb4 (P.P 1) (P.P 0)) (Jv2 u v)) 2) ((Je1 (Jb4 (P.P 2) (P.P 0)) (Jw4 u v)) 0) ((Je1 (Jb4 (P.P 2) (P.P 0)) (Jw4 u v)) 1) ((Je1 (Jb4 (P.P 2) (P.P 0)) (Jw4 u v)) 2) M q;have e9:([.int .i64 (Jd6 (Jd6 (Jd6 0 (P.P 0 0)) ((Je1 (Jb4 (P.P 1) (P.P 0)) (Jv2 u v)) 0)) ((Je1 (Jb4 (P.P 2) (P.P 0)) (Jw4 u v)) 0)),.int .i64 (Jd6 (Jd6 (Jd6 0 (P.P 0 1)) ((Je1 (Jb4 (P.P 1) (P.P 0)) (Jv2 u v)) 1)) ((Je1 (Jb4 (P.P 2) (P.P 0)) (Jw4 u v)) 1)),.int .i64 (Jd6 (Jd6 (Jd6 0 (P.P 0 2)) ((Je1 (Jb4 (P.P 1) (P.P 0)) (Jv2 u v)) 2)) ((Je1 (Jb4 (P.P 2) (P.P 0)) (Jw4 u v)) 2))]:List CV)=c3C D:=(by rw [hD];rfl);rw [e9] at h9;exact h9 _ _ ⟨.grow,3,by simp only [push_cast,simprocAttr]⟩)) ?_
 simp only [push_cast,simprocAttr,U2]
 apply J0
 exact AW.ret (hQ _ _ _ (RetP.z hwf Tru))
theorem Xa9 (P:PL)(u v:Int)(m:Ja1)(hk:P.kind=0):Ctr Tryz.prog 150 [.agg (plC P),.one (.int .i64 u),.one (.int .i64 v)] m (.agg (c3C (Ke3 P u v))) m:=by
 refine Ctr.en Tryz.func150 [.cell 6 54] 60 fun hwf Q hQ=>?_
 have hv:Ke3 P u v=Jd9 (P.P 0) (Je1 (Jk2 u v) P.r):=if_pos hk
 rw [hv] at hQ
 have hkb:(P.kind ==0)=true:=beq_iff_eq.2 hk
 have U3:=ca3 @Jq4 @Ja4 hkb
 refine AW.c 1 U3 Tru ?_
 refine AW.q fun K J0=>?_
 refine AW.c 1 U3 Tru ?_
 apply AW.y rfl
 refine AW.d [.val,.val,.rd 0,.val,.val,.ext,.val,.rd 0,.ext,.ext,.wr] fol U3 (ca3 (Ku6 u v) (Jp8 (Jk2 u v) P.r) (Ju1 (P.P 0) (Je1 (Jk2 u v) P.r))) ?_
 exact AW.ret (hQ _ _ _ (RetP.z hwf Tru))
theorem Xb0 (P:PL)(u v:Int)(m:Ja1)(hk:¬P.kind=0):Ctr Tryz.prog 150 [.agg (plC P),.one (.int .i64 u),.one (.int .i64 v)] m (.agg (c3C (Ke3 P u v))) m:=by
 refine Ctr.en Tryz.func150 [.cell 6 54] 60 fun hwf Q hQ=>?_
 obtain ⟨D,hD⟩:∃ D,D=Jd9 (Jd9 (Jd9 z0V (P.P 0)) (Je1 (Jb4 (P.P 1) (P.P 0)) (Jv2 u v))) (Je1 (Jb4 (P.P 2) (P.P 0)) (Jw4 u v)):=⟨_,rfl⟩
 have hv:Ke3 P u v=D:=by rw [hD];exact if_neg hk
 rw [hv] at hQ
 have hkb:(P.kind ==0)=false:=by simpa using hk
 have b1:=Jt2 u
 have b2:=Jt2 v
 have w0:IntKind.i64.wrap (Jb9 u+Jb9 v)=Jb9 u+Jb9 v:=wi (by omega)
 have w1:IntKind.i64.wrap (65536 - Jb9 u)=65536 - Jb9 u:=wi (by omega)
 have w2:IntKind.i64.wrap (65536 - Jb9 v)=65536 - Jb9 v:=wi (by omega)
 have U4:=ca4 @Jq4 @Ja4 hkb (ca3 w0 w1 w2)
 refine AW.c 1 U4 Tru ?_
 refine AW.q fun K J0=>?_
 refine AW.c 1 U4 Tru ?_
 apply AW.x rfl
 apply AW.z
 apply J0
 refine AW.c 2 U4 Js7 ?_
 refine AW.q fun K J0=>?_
 refine AW.c 1 U4 Tru ?_
 refine AW.condJ rfl [3,6] [(1,.one (.int .i64 (Jv2 u v))),(2,.one (.int .i64 (Jw4 u v)))] [] (fun h28=>?_) (fun h28=>?_) ?_
 ·have hA:Jv2 u v=65536 - Jb9 u:=if_pos (of_decide_eq_true h28)
  have hB:Jw4 u v=65536 - Jb9 v:=if_pos (of_decide_eq_true h28)
  refine AW.c 1 U4 Tru ?_
  refine AW.g U4 Tru ?_
  apply Jc2
  try simp only [Jb1,Ja2,push_cast,simprocAttr,U4,hA,hB]
  exact Weak.same (by simp only [KS,simprocAttr,hA,hB]) (by first|rfl|simp only [KS,simprocAttr,hA,hB])
 ·have hA:Jv2 u v=Jb9 u:=if_neg (of_decide_eq_false h28)
  have hB:Jw4 u v=Jb9 v:=if_neg (of_decide_eq_false h28)
  apply AW.z
  apply Jc2
  try simp only [Jb1,Ja2,push_cast,simprocAttr,U4,hA,hB]
  exact Weak.same (by simp only [KS,simprocAttr,hA,hB]) (by first|rfl|simp only [KS,simprocAttr,hA,hB])
 try simp only [Jb1,Ja2,push_cast,simprocAttr,U4]
 apply J0
 refine AW.c 1 U4 (Ju1 z0V (P.P 0)) ?_
 refine AW.d [.rd 0,.val,.val,.rd 0,.val,.val,.rd 0,.ext,.val,.ext,.ext,.wr] fol U4 (ca3 (Jg3 (P.P 1) (P.P 0)) (Jp8 (Jb4 (P.P 1) (P.P 0)) (Jv2 u v)) (Ju1 (Jd9 z0V (P.P 0)) (Je1 (Jb4 (P.P 1) (P.P 0)) (Jv2 u v)))) ?_
 have q_1:=Ju1 (Jd9 (Jd9 z0V (P.P 0)) (Je1 (Jb4 (P.P 1) (P.P 0)) (Jv2 u v))) (Je1 (Jb4 (P.P 2) (P.P 0)) (Jw4 u v))
 rw [<-hD] at q_1
 refine AW.d [.rd 0,.val,.val,.rd 0,.val,.val,.rd 0,.ext,.val,.ext,.ext,.wr] fol U4 (ca3 (Jg3 (P.P 2) (P.P 0)) (Jp8 (Jb4 (P.P 2) (P.P 0)) (Jw4 u v)) q_1) ?_
 exact AW.ret (hQ _ _ _ (RetP.z hwf Tru))
theorem Xp4 (P:PL)(u v:Int)(m:Ja1):Ctr Tryz.prog 131 [.agg (plC P),.one (.int .i64 u),.one (.int .i64 v)] m (.agg (c3C (Ke3 P u v))) m:=by
 by_cases hk:P.kind=0
 ·exact Xp2 P u v m hk
 exact Xp3 P u v m hk
theorem Xb1 (P:PL)(u v:Int)(m:Ja1):Ctr Tryz.prog 150 [.agg (plC P),.one (.int .i64 u),.one (.int .i64 v)] m (.agg (c3C (Ke3 P u v))) m:=by
 by_cases hk:P.kind=0
 ·exact Xa9 P u v m hk
 exact Xb0 P u v m hk
theorem Xx1 (k:Int)(c:V)(ro:Int)(d n:V)(u v:Int)(m:Ja1)(hk:k=0)(g:Je9 (Jk7 k ro d n u v) n<=0):Ctr Tryz.prog 55 [.agg [.int .i64 k,.int .i64 (c 0),.int .i64 (c 1),.int .i64 (c 2),.int .i64 ro],.agg (c3C d),.agg (c3C n),.one (.int .i64 u),.one (.int .i64 v)] m (.agg (tnC (Jr0 k c ro d n u v))) m:=by
 refine Ctr.en Tryz.func55 [.cell 10 172] 62 fun hwf Q hQ=>?_
 obtain ⟨D,hD⟩:∃ D,D=Jk6 n u v:=⟨_,rfl⟩
 have hdd:Jk7 k ro d n u v=D:=by rw [hD,hk];rfl
 rw [hdd] at g
 have hv:tnC (Jr0 k c ro d n u v)=[.int .i64 0,.int .i64 0,.int .i64 0,.int .i64 0,.int .i64 0,.int .i64 0,.bool false,.bool false]:=by
   unfold Jr0
   rw [if_neg (by omega),hdd,if_pos g]
   rfl
 rw [hv] at hQ
 have hg9:¬0<Je9 D n:=by omega
 subst hk
 have U5:=ca3 @Ja4 g hg9
 refine AW.c 2 U5 Tru ?_
 refine AW.q fun K J0=>?_
 refine AW.c 1 U5 Tru ?_
 apply AW.b
 refine AW.c 1 U5 Tru ?_
 apply AW.y rfl
 have q_2:=Qn8 n u v
 rw [<-hD] at q_2
 refine AW.g U5 q_2 ?_
 apply Ja8
 apply J0
 refine AW.c 1 U5 (Jg7 D n) ?_
 refine AW.q fun K J0=>?_
 refine AW.c 1 U5 Tru ?_
 apply AW.y rfl
 refine AW.c 1 U5 Tru ?_
 exact AW.ret (hQ _ _ _ (RetP.z hwf Tru))
theorem Xx2 (k:Int)(c:V)(ro:Int)(d n:V)(u v:Int)(m:Ja1)(hk:k=0)(g:¬Je9 (Jk7 k ro d n u v) n<=0):Ctr Tryz.prog 55 [.agg [.int .i64 k,.int .i64 (c 0),.int .i64 (c 1),.int .i64 (c 2),.int .i64 ro],.agg (c3C d),.agg (c3C n),.one (.int .i64 u),.one (.int .i64 v)] m (.agg (tnC (Jr0 k c ro d n u v))) m:=by
 refine Ctr.en Tryz.func55 [.cell 10 172] 62 fun hwf Q hQ=>?_
 obtain ⟨D,hD⟩:∃ D,D=Jk6 n u v:=⟨_,rfl⟩
 have hdd:Jk7 k ro d n u v=D:=by rw [hD,hk];rfl
 rw [hdd] at g
 have hv:tnC (Jr0 k c ro d n u v)=[.int .i64 (D 0),.int .i64 (D 1),.int .i64 (D 2),.int .i64 (c 0),.int .i64 (c 1),.int .i64 (c 2),.bool true,.bool false]:=by
   unfold Jr0
   rw [if_neg (by omega),hdd,if_neg g]
   rw [hk];rfl
 rw [hv] at hQ
 have hg9:0<Je9 D n:=by omega
 subst hk
 have U6:=ca3 @Ja4 g hg9
 refine AW.c 2 U6 Tru ?_
 refine AW.q fun K J0=>?_
 refine AW.c 1 U6 Tru ?_
 apply AW.b
 refine AW.c 1 U6 Tru ?_
 apply AW.y rfl
 have q_3:=Qn8 n u v
 rw [<-hD] at q_3
 refine AW.g U6 q_3 ?_
 apply Ja8
 apply J0
 refine AW.c 1 U6 (Jg7 D n) ?_
 refine AW.q fun K J0=>?_
 refine AW.c 1 U6 Tru ?_
 apply AW.x rfl
 apply AW.z
 apply J0
 refine AW.c 1 U6 Tru ?_
 exact AW.ret (hQ _ _ _ (RetP.z hwf Tru))
theorem Xw9 (k:Int)(c:V)(ro:Int)(d n:V)(u v:Int)(m:Ja1)(hk:k=1)(g:Je9 (Jk7 k ro d n u v) n<=0):Ctr Tryz.prog 55 [.agg [.int .i64 k,.int .i64 (c 0),.int .i64 (c 1),.int .i64 (c 2),.int .i64 ro],.agg (c3C d),.agg (c3C n),.one (.int .i64 u),.one (.int .i64 v)] m (.agg (tnC (Jr0 k c ro d n u v))) m:=by
 refine Ctr.en Tryz.func55 [.cell 10 172] 62 fun hwf Q hQ=>?_
 obtain ⟨D,hD⟩:∃ D,D=Jb8 (Kh7 d n):=⟨_,rfl⟩
 have hdd:Jk7 k ro d n u v=D:=by rw [hD,hk];rfl
 rw [hdd] at g
 have hv:tnC (Jr0 k c ro d n u v)=[.int .i64 0,.int .i64 0,.int .i64 0,.int .i64 0,.int .i64 0,.int .i64 0,.bool false,.bool false]:=by
   unfold Jr0
   rw [if_neg (by omega),hdd,if_pos g]
   rfl
 rw [hv] at hQ
 have hg9:¬0<Je9 D n:=by omega
 subst hk
 have U7:=ca3 @Ja4 g hg9
 refine AW.c 2 U7 Tru ?_
 refine AW.q fun K J0=>?_
 refine AW.c 1 U7 Tru ?_
 apply AW.b
 refine AW.c 1 U7 Tru ?_
 apply AW.x rfl
 refine AW.c 1 U7 Tru ?_
 apply AW.y rfl
 have q_4:=Jr5 (Kh7 d n)
 rw [<-hD] at q_4
 refine AW.g U7 (ca2 (Kh6 d n) q_4) ?_
 apply Ja8
 apply J0
 refine AW.c 1 U7 (Jg7 D n) ?_
 refine AW.q fun K J0=>?_
 refine AW.c 1 U7 Tru ?_
 apply AW.y rfl
 refine AW.c 1 U7 Tru ?_
 exact AW.ret (hQ _ _ _ (RetP.z hwf Tru))
theorem Xx0 (k:Int)(c:V)(ro:Int)(d n:V)(u v:Int)(m:Ja1)(hk:k=1)(g:¬Je9 (Jk7 k ro d n u v) n<=0):Ctr Tryz.prog 55 [.agg [.int .i64 k,.int .i64 (c 0),.int .i64 (c 1),.int .i64 (c 2),.int .i64 ro],.agg (c3C d),.agg (c3C n),.one (.int .i64 u),.one (.int .i64 v)] m (.agg (tnC (Jr0 k c ro d n u v))) m:=by
 refine Ctr.en Tryz.func55 [.cell 10 172] 62 fun hwf Q hQ=>?_
 obtain ⟨D,hD⟩:∃ D,D=Jb8 (Kh7 d n):=⟨_,rfl⟩
 have hdd:Jk7 k ro d n u v=D:=by rw [hD,hk];rfl
 rw [hdd] at g
 have hv:tnC (Jr0 k c ro d n u v)=[.int .i64 (D 0),.int .i64 (D 1),.int .i64 (D 2),.int .i64 (c 0),.int .i64 (c 1),.int .i64 (c 2),.bool true,.bool true]:=by
   unfold Jr0
   rw [if_neg (by omega),hdd,if_neg g]
   rw [hk];rfl
 rw [hv] at hQ
 have hg9:0<Je9 D n:=by omega
 subst hk
 have U8:=ca3 @Ja4 g hg9
 refine AW.c 2 U8 Tru ?_
 refine AW.q fun K J0=>?_
 refine AW.c 1 U8 Tru ?_
 apply AW.b
 refine AW.c 1 U8 Tru ?_
 apply AW.x rfl
 refine AW.c 1 U8 Tru ?_
 apply AW.y rfl
 have q_5:=Jr5 (Kh7 d n)
 rw [<-hD] at q_5
 refine AW.g U8 (ca2 (Kh6 d n) q_5) ?_
 apply Ja8
 apply J0
 refine AW.c 1 U8 (Jg7 D n) ?_
 refine AW.q fun K J0=>?_
 refine AW.c 1 U8 Tru ?_
 apply AW.x rfl
 apply AW.z
 apply J0
 refine AW.c 1 U8 Tru ?_
 exact AW.ret (hQ _ _ _ (RetP.z hwf Tru))
theorem Xw7 (k:Int)(c:V)(ro:Int)(d n:V)(u v:Int)(m:Ja1)(hk:k=2)(g:Je9 (Jk7 k ro d n u v) n<=0):Ctr Tryz.prog 55 [.agg [.int .i64 k,.int .i64 (c 0),.int .i64 (c 1),.int .i64 (c 2),.int .i64 ro],.agg (c3C d),.agg (c3C n),.one (.int .i64 u),.one (.int .i64 v)] m (.agg (tnC (Jr0 k c ro d n u v))) m:=by
 refine Ctr.en Tryz.func55 [.cell 10 172] 62 fun hwf Q hQ=>?_
 obtain ⟨D,hD⟩:∃ D,D=Jb8 (Jd9 (Kh7 d n) (Je1 (Jk6 n u v) ro)):=⟨_,rfl⟩
 have hdd:Jk7 k ro d n u v=D:=by rw [hD,hk];rfl
 rw [hdd] at g
 have hv:tnC (Jr0 k c ro d n u v)=[.int .i64 0,.int .i64 0,.int .i64 0,.int .i64 0,.int .i64 0,.int .i64 0,.bool false,.bool false]:=by
   unfold Jr0
   rw [if_neg (by omega),hdd,if_pos g]
   rfl
 rw [hv] at hQ
 have hg9:¬0<Je9 D n:=by omega
 subst hk
 have U9:=ca3 @Ja4 g hg9
 refine AW.c 2 U9 Tru ?_
 refine AW.q fun K J0=>?_
 refine AW.c 1 U9 Tru ?_
 apply AW.b
 refine AW.c 1 U9 Tru ?_
 apply AW.x rfl
 refine AW.c 1 U9 Tru ?_
 apply AW.x rfl
 refine AW.c 1 U9 Tru ?_
 apply AW.y rfl
 refine AW.d [.rd 0,.val,.val,.ext,.val,.rd 0,.ext,.fl,.wr] fol U9 (ca2 (Qn8 n u v) (Jv1 (Jk6 n u v) ro)) ?_
 have q_6:=Jr5 (Jd9 (Kh7 d n) (Je1 (Jk6 n u v) ro))
 rw [<-hD] at q_6
 refine AW.e [.rd 0,.rd 0,.ext,.rd 0,.ext,.ext,.val,.wr,.val,.wr] fol U9 (ca3 (Kh6 d n) (Qg8 (Kh7 d n) (Je1 (Jk6 n u v) ro)) q_6) ?_
 apply Ja8
 apply J0
 refine AW.c 1 U9 (Jg7 D n) ?_
 refine AW.q fun K J0=>?_
 refine AW.c 1 U9 Tru ?_
 apply AW.y rfl
 refine AW.c 1 U9 Tru ?_
 exact AW.ret (hQ _ _ _ (RetP.z hwf Tru))
theorem Xw8 (k:Int)(c:V)(ro:Int)(d n:V)(u v:Int)(m:Ja1)(hk:k=2)(g:¬Je9 (Jk7 k ro d n u v) n<=0):Ctr Tryz.prog 55 [.agg [.int .i64 k,.int .i64 (c 0),.int .i64 (c 1),.int .i64 (c 2),.int .i64 ro],.agg (c3C d),.agg (c3C n),.one (.int .i64 u),.one (.int .i64 v)] m (.agg (tnC (Jr0 k c ro d n u v))) m:=by
 refine Ctr.en Tryz.func55 [.cell 10 172] 62 fun hwf Q hQ=>?_
 obtain ⟨D,hD⟩:∃ D,D=Jb8 (Jd9 (Kh7 d n) (Je1 (Jk6 n u v) ro)):=⟨_,rfl⟩
 have hdd:Jk7 k ro d n u v=D:=by rw [hD,hk];rfl
 rw [hdd] at g
 have hv:tnC (Jr0 k c ro d n u v)=[.int .i64 (D 0),.int .i64 (D 1),.int .i64 (D 2),.int .i64 (c 0),.int .i64 (c 1),.int .i64 (c 2),.bool true,.bool true]:=by
   unfold Jr0
   rw [if_neg (by omega),hdd,if_neg g]
   rw [hk];rfl
 rw [hv] at hQ
 have hg9:0<Je9 D n:=by omega
 subst hk
 have U10:=ca3 @Ja4 g hg9
 refine AW.c 2 U10 Tru ?_
 refine AW.q fun K J0=>?_
 refine AW.c 1 U10 Tru ?_
 apply AW.b
 refine AW.c 1 U10 Tru ?_
 apply AW.x rfl
 refine AW.c 1 U10 Tru ?_
 apply AW.x rfl
 refine AW.c 1 U10 Tru ?_
 apply AW.y rfl
 refine AW.d [.rd 0,.val,.val,.ext,.val,.rd 0,.ext,.fl,.wr] fol U10 (ca2 (Qn8 n u v) (Jv1 (Jk6 n u v) ro)) ?_
 have q_7:=Jr5 (Jd9 (Kh7 d n) (Je1 (Jk6 n u v) ro))
 rw [<-hD] at q_7
 refine AW.e [.rd 0,.rd 0,.ext,.rd 0,.ext,.ext,.val,.wr,.val,.wr] fol U10 (ca3 (Kh6 d n) (Qg8 (Kh7 d n) (Je1 (Jk6 n u v) ro)) q_7) ?_
 apply Ja8
 apply J0
 refine AW.c 1 U10 (Jg7 D n) ?_
 refine AW.q fun K J0=>?_
 refine AW.c 1 U10 Tru ?_
 apply AW.x rfl
 apply AW.z
 apply J0
 refine AW.c 1 U10 Tru ?_
 exact AW.ret (hQ _ _ _ (RetP.z hwf Tru))
theorem bnc_o (k:Int)(c:V)(ro:Int)(d n:V)(u v:Int)(m:Ja1)(hk:k≠0/\k≠1/\k≠2):Ctr Tryz.prog 55 [.agg [.int .i64 k,.int .i64 (c 0),.int .i64 (c 1),.int .i64 (c 2),.int .i64 ro],.agg (c3C d),.agg (c3C n),.one (.int .i64 u),.one (.int .i64 v)] m (.agg (tnC (Jr0 k c ro d n u v))) m:=by
 refine Ctr.en Tryz.func55 [.cell 10 172] 62 fun hwf Q hQ=>?_
 have hv:tnC (Jr0 k c ro d n u v)=[.int .i64 0,.int .i64 0,.int .i64 0,.int .i64 0,.int .i64 0,.int .i64 0,.bool false,.bool false]:=by
   unfold Jr0
   rw [if_pos hk];rfl
 rw [hv] at hQ
 have k0:(k ==0)=false:=by simpa using hk.1
 have k1:(k ==1)=false:=by simpa using hk.2.1
 have k2:(k ==2)=false:=by simpa using hk.2.2
 have U11:=ca4 @Ja4 k0 k1 k2
 refine AW.c 2 U11 Tru ?_
 refine AW.q fun K J0=>?_
 refine AW.c 1 U11 Tru ?_
 apply AW.b
 refine AW.c 1 U11 Tru ?_
 apply AW.x rfl
 refine AW.c 1 U11 Tru ?_
 apply AW.x rfl
 refine AW.c 1 U11 Tru ?_
 apply AW.x rfl
 refine AW.c 1 U11 Tru ?_
 exact AW.ret (hQ _ _ _ (RetP.z hwf Tru))
theorem bnc_c (k:Int)(c:V)(ro:Int)(d n:V)(u v:Int)(m:Ja1):Ctr Tryz.prog 55 [.agg [.int .i64 k,.int .i64 (c 0),.int .i64 (c 1),.int .i64 (c 2),.int .i64 ro],.agg (c3C d),.agg (c3C n),.one (.int .i64 u),.one (.int .i64 v)] m (.agg (tnC (Jr0 k c ro d n u v))) m:=by
 by_cases h0:k=0
 ·by_cases g:Je9 (Jk7 k ro d n u v) n<=0
  ·exact Xx1 k c ro d n u v m h0 g
  exact Xx2 k c ro d n u v m h0 g
 by_cases h1:k=1
 ·by_cases g:Je9 (Jk7 k ro d n u v) n<=0
  ·exact Xw9 k c ro d n u v m h1 g
  exact Xx0 k c ro d n u v m h1 g
 by_cases h2:k=2
 ·by_cases g:Je9 (Jk7 k ro d n u v) n<=0
  ·exact Xw7 k c ro d n u v m h2 g
  exact Xw8 k c ro d n u v m h2 g
 exact bnc_o k c ro d n u v m ⟨h0,h1,h2⟩
theorem Xe5 (k:Int)(c:V)(ro:Int)(d n:V)(u v:Int)(m:Ja1)(hk:k=0)(g:Je9 (Jk7 k ro d n u v) n<=0):Ctr Tryz.prog 64 [.agg [.int .i64 k,.int .i64 (c 0),.int .i64 (c 1),.int .i64 (c 2),.int .i64 ro],.agg (c3C d),.agg (c3C n),.one (.int .i64 u),.one (.int .i64 v)] m (.agg (tnC (Jr0 k c ro d n u v))) m:=by
 refine Ctr.en Tryz.func64 [.cell 10 189] 54 fun hwf Q hQ=>?_
 obtain ⟨D,hD⟩:∃ D,D=Jk6 n u v:=⟨_,rfl⟩
 have hdd:Jk7 k ro d n u v=D:=by rw [hD,hk];rfl
 rw [hdd] at g
 have hv:tnC (Jr0 k c ro d n u v)=[.int .i64 0,.int .i64 0,.int .i64 0,.int .i64 0,.int .i64 0,.int .i64 0,.bool false,.bool false]:=by
   unfold Jr0
   rw [if_neg (by omega),hdd,if_pos g]
   rfl
 rw [hv] at hQ
 have hg9:¬0<Je9 D n:=by omega
 subst hk
 have U12:=ca3 @Ja4 g hg9
 refine AW.c 2 U12 Tru ?_
 refine AW.q fun K J0=>?_
 refine AW.c 1 U12 Tru ?_
 apply AW.y rfl
 have q_8:=Kv0 n u v
 rw [<-hD] at q_8
 refine AW.g U12 q_8 ?_
 apply J0
 refine AW.q fun K J0=>?_
 refine AW.c 1 U12 (Je3 D n) ?_
 apply AW.y rfl
 refine AW.c 1 U12 Tru ?_
 exact AW.ret (hQ _ _ _ (RetP.z hwf Tru))
theorem Xe6 (k:Int)(c:V)(ro:Int)(d n:V)(u v:Int)(m:Ja1)(hk:k=0)(g:¬Je9 (Jk7 k ro d n u v) n<=0):Ctr Tryz.prog 64 [.agg [.int .i64 k,.int .i64 (c 0),.int .i64 (c 1),.int .i64 (c 2),.int .i64 ro],.agg (c3C d),.agg (c3C n),.one (.int .i64 u),.one (.int .i64 v)] m (.agg (tnC (Jr0 k c ro d n u v))) m:=by
 refine Ctr.en Tryz.func64 [.cell 10 189] 54 fun hwf Q hQ=>?_
 obtain ⟨D,hD⟩:∃ D,D=Jk6 n u v:=⟨_,rfl⟩
 have hdd:Jk7 k ro d n u v=D:=by rw [hD,hk];rfl
 rw [hdd] at g
 have hv:tnC (Jr0 k c ro d n u v)=[.int .i64 (D 0),.int .i64 (D 1),.int .i64 (D 2),.int .i64 (c 0),.int .i64 (c 1),.int .i64 (c 2),.bool true,.bool false]:=by
   unfold Jr0
   rw [if_neg (by omega),hdd,if_neg g]
   rw [hk];rfl
 rw [hv] at hQ
 have hg9:0<Je9 D n:=by omega
 subst hk
 have U13:=ca3 @Ja4 g hg9
 refine AW.c 2 U13 Tru ?_
 refine AW.q fun K J0=>?_
 refine AW.c 1 U13 Tru ?_
 apply AW.y rfl
 have q_9:=Kv0 n u v
 rw [<-hD] at q_9
 refine AW.g U13 q_9 ?_
 apply J0
 refine AW.q fun K J0=>?_
 refine AW.c 1 U13 (Je3 D n) ?_
 apply AW.x rfl
 apply AW.z
 apply J0
 refine AW.c 1 U13 Tru ?_
 exact AW.ret (hQ _ _ _ (RetP.z hwf Tru))
theorem Xe3 (k:Int)(c:V)(ro:Int)(d n:V)(u v:Int)(m:Ja1)(hk:k=1)(g:Je9 (Jk7 k ro d n u v) n<=0):Ctr Tryz.prog 64 [.agg [.int .i64 k,.int .i64 (c 0),.int .i64 (c 1),.int .i64 (c 2),.int .i64 ro],.agg (c3C d),.agg (c3C n),.one (.int .i64 u),.one (.int .i64 v)] m (.agg (tnC (Jr0 k c ro d n u v))) m:=by
 refine Ctr.en Tryz.func64 [.cell 10 189] 54 fun hwf Q hQ=>?_
 obtain ⟨D,hD⟩:∃ D,D=Jb8 (Kh7 d n):=⟨_,rfl⟩
 have hdd:Jk7 k ro d n u v=D:=by rw [hD,hk];rfl
 rw [hdd] at g
 have hv:tnC (Jr0 k c ro d n u v)=[.int .i64 0,.int .i64 0,.int .i64 0,.int .i64 0,.int .i64 0,.int .i64 0,.bool false,.bool false]:=by
   unfold Jr0
   rw [if_neg (by omega),hdd,if_pos g]
   rfl
 rw [hv] at hQ
 have hg9:¬0<Je9 D n:=by omega
 subst hk
 have U14:=ca3 @Ja4 g hg9
 refine AW.c 2 U14 Tru ?_
 refine AW.q fun K J0=>?_
 refine AW.c 1 U14 Tru ?_
 apply AW.x rfl
 refine AW.c 1 U14 Tru ?_
 apply AW.y rfl
 have q_10:=Jn1 (Kh7 d n)
 rw [<-hD] at q_10
 refine AW.g U14 (ca2 (Kc4 d n) q_10) ?_
 apply J0
 refine AW.q fun K J0=>?_
 refine AW.c 1 U14 (Je3 D n) ?_
 apply AW.y rfl
 refine AW.c 1 U14 Tru ?_
 exact AW.ret (hQ _ _ _ (RetP.z hwf Tru))
theorem Xe4 (k:Int)(c:V)(ro:Int)(d n:V)(u v:Int)(m:Ja1)(hk:k=1)(g:¬Je9 (Jk7 k ro d n u v) n<=0):Ctr Tryz.prog 64 [.agg [.int .i64 k,.int .i64 (c 0),.int .i64 (c 1),.int .i64 (c 2),.int .i64 ro],.agg (c3C d),.agg (c3C n),.one (.int .i64 u),.one (.int .i64 v)] m (.agg (tnC (Jr0 k c ro d n u v))) m:=by
 refine Ctr.en Tryz.func64 [.cell 10 189] 54 fun hwf Q hQ=>?_
 obtain ⟨D,hD⟩:∃ D,D=Jb8 (Kh7 d n):=⟨_,rfl⟩
 have hdd:Jk7 k ro d n u v=D:=by rw [hD,hk];rfl
 rw [hdd] at g
 have hv:tnC (Jr0 k c ro d n u v)=[.int .i64 (D 0),.int .i64 (D 1),.int .i64 (D 2),.int .i64 (c 0),.int .i64 (c 1),.int .i64 (c 2),.bool true,.bool true]:=by
   unfold Jr0
   rw [if_neg (by omega),hdd,if_neg g]
   rw [hk];rfl
 rw [hv] at hQ
 have hg9:0<Je9 D n:=by omega
 subst hk
 have U15:=ca3 @Ja4 g hg9
 refine AW.c 2 U15 Tru ?_
 refine AW.q fun K J0=>?_
 refine AW.c 1 U15 Tru ?_
 apply AW.x rfl
 refine AW.c 1 U15 Tru ?_
 apply AW.y rfl
 have q_11:=Jn1 (Kh7 d n)
 rw [<-hD] at q_11
 refine AW.g U15 (ca2 (Kc4 d n) q_11) ?_
 apply J0
 refine AW.q fun K J0=>?_
 refine AW.c 1 U15 (Je3 D n) ?_
 apply AW.x rfl
 apply AW.z
 apply J0
 refine AW.c 1 U15 Tru ?_
 exact AW.ret (hQ _ _ _ (RetP.z hwf Tru))
theorem Xe1 (k:Int)(c:V)(ro:Int)(d n:V)(u v:Int)(m:Ja1)(hk:k=2)(g:Je9 (Jk7 k ro d n u v) n<=0):Ctr Tryz.prog 64 [.agg [.int .i64 k,.int .i64 (c 0),.int .i64 (c 1),.int .i64 (c 2),.int .i64 ro],.agg (c3C d),.agg (c3C n),.one (.int .i64 u),.one (.int .i64 v)] m (.agg (tnC (Jr0 k c ro d n u v))) m:=by
 refine Ctr.en Tryz.func64 [.cell 10 189] 54 fun hwf Q hQ=>?_
 obtain ⟨D,hD⟩:∃ D,D=Jb8 (Jd9 (Kh7 d n) (Je1 (Jk6 n u v) ro)):=⟨_,rfl⟩
 have hdd:Jk7 k ro d n u v=D:=by rw [hD,hk];rfl
 rw [hdd] at g
 have hv:tnC (Jr0 k c ro d n u v)=[.int .i64 0,.int .i64 0,.int .i64 0,.int .i64 0,.int .i64 0,.int .i64 0,.bool false,.bool false]:=by
   unfold Jr0
   rw [if_neg (by omega),hdd,if_pos g]
   rfl
 rw [hv] at hQ
 have hg9:¬0<Je9 D n:=by omega
 subst hk
 have U16:=ca3 @Ja4 g hg9
 refine AW.c 2 U16 Tru ?_
 refine AW.q fun K J0=>?_
 refine AW.c 1 U16 Tru ?_
 apply AW.x rfl
 refine AW.c 1 U16 Tru ?_
 apply AW.x rfl
 refine AW.c 1 U16 Tru ?_
 apply AW.y rfl
 have q_12:=Jn1 (Jd9 (Kh7 d n) (Je1 (Jk6 n u v) ro))
 rw [<-hD] at q_12
 refine AW.e [.rd 0,.rd 0,.ext,.rd 0,.val,.val,.ext,.val,.rd 0,.ext,.ext,.ext,.wr] fol U16 (ca4 (Kc4 d n) (Kv0 n u v) (Jp8 (Jk6 n u v) ro) (ca2 (Ju1 (Kh7 d n) (Je1 (Jk6 n u v) ro)) q_12)) ?_
 apply J0
 refine AW.q fun K J0=>?_
 refine AW.c 1 U16 (Je3 D n) ?_
 apply AW.y rfl
 refine AW.c 1 U16 Tru ?_
 exact AW.ret (hQ _ _ _ (RetP.z hwf Tru))
theorem Xe2 (k:Int)(c:V)(ro:Int)(d n:V)(u v:Int)(m:Ja1)(hk:k=2)(g:¬Je9 (Jk7 k ro d n u v) n<=0):Ctr Tryz.prog 64 [.agg [.int .i64 k,.int .i64 (c 0),.int .i64 (c 1),.int .i64 (c 2),.int .i64 ro],.agg (c3C d),.agg (c3C n),.one (.int .i64 u),.one (.int .i64 v)] m (.agg (tnC (Jr0 k c ro d n u v))) m:=by
 refine Ctr.en Tryz.func64 [.cell 10 189] 54 fun hwf Q hQ=>?_
 obtain ⟨D,hD⟩:∃ D,D=Jb8 (Jd9 (Kh7 d n) (Je1 (Jk6 n u v) ro)):=⟨_,rfl⟩
 have hdd:Jk7 k ro d n u v=D:=by rw [hD,hk];rfl
 rw [hdd] at g
 have hv:tnC (Jr0 k c ro d n u v)=[.int .i64 (D 0),.int .i64 (D 1),.int .i64 (D 2),.int .i64 (c 0),.int .i64 (c 1),.int .i64 (c 2),.bool true,.bool true]:=by
   unfold Jr0
   rw [if_neg (by omega),hdd,if_neg g]
   rw [hk];rfl
 rw [hv] at hQ
 have hg9:0<Je9 D n:=by omega
 subst hk
 have U17:=ca3 @Ja4 g hg9
 refine AW.c 2 U17 Tru ?_
 refine AW.q fun K J0=>?_
 refine AW.c 1 U17 Tru ?_
 apply AW.x rfl
 refine AW.c 1 U17 Tru ?_
 apply AW.x rfl
 refine AW.c 1 U17 Tru ?_
 apply AW.y rfl
 have q_13:=Jn1 (Jd9 (Kh7 d n) (Je1 (Jk6 n u v) ro))
 rw [<-hD] at q_13
 refine AW.e [.rd 0,.rd 0,.ext,.rd 0,.val,.val,.ext,.val,.rd 0,.ext,.ext,.ext,.wr] fol U17 (ca4 (Kc4 d n) (Kv0 n u v) (Jp8 (Jk6 n u v) ro) (ca2 (Ju1 (Kh7 d n) (Je1 (Jk6 n u v) ro)) q_13)) ?_
 apply J0
 refine AW.q fun K J0=>?_
 refine AW.c 1 U17 (Je3 D n) ?_
 apply AW.x rfl
 apply AW.z
 apply J0
 refine AW.c 1 U17 Tru ?_
 exact AW.ret (hQ _ _ _ (RetP.z hwf Tru))
theorem Xq5 (k:Int)(c:V)(ro:Int)(d n:V)(u v:Int)(m:Ja1)(hk:k≠0/\k≠1/\k≠2):Ctr Tryz.prog 64 [.agg [.int .i64 k,.int .i64 (c 0),.int .i64 (c 1),.int .i64 (c 2),.int .i64 ro],.agg (c3C d),.agg (c3C n),.one (.int .i64 u),.one (.int .i64 v)] m (.agg (tnC (Jr0 k c ro d n u v))) m:=by
 refine Ctr.en Tryz.func64 [.cell 10 189] 54 fun hwf Q hQ=>?_
 have hv:tnC (Jr0 k c ro d n u v)=[.int .i64 0,.int .i64 0,.int .i64 0,.int .i64 0,.int .i64 0,.int .i64 0,.bool false,.bool false]:=by
   unfold Jr0
   rw [if_pos hk];rfl
 rw [hv] at hQ
 have k0:(k ==0)=false:=by simpa using hk.1
 have k1:(k ==1)=false:=by simpa using hk.2.1
 have k2:(k ==2)=false:=by simpa using hk.2.2
 have U18:=ca4 @Ja4 k0 k1 k2
 refine AW.c 2 U18 Tru ?_
 refine AW.q fun K J0=>?_
 refine AW.c 1 U18 Tru ?_
 apply AW.x rfl
 refine AW.c 1 U18 Tru ?_
 apply AW.x rfl
 refine AW.c 1 U18 Tru ?_
 apply AW.x rfl
 refine AW.c 1 U18 Tru ?_
 exact AW.ret (hQ _ _ _ (RetP.z hwf Tru))
theorem Xq6 (k:Int)(c:V)(ro:Int)(d n:V)(u v:Int)(m:Ja1):Ctr Tryz.prog 64 [.agg [.int .i64 k,.int .i64 (c 0),.int .i64 (c 1),.int .i64 (c 2),.int .i64 ro],.agg (c3C d),.agg (c3C n),.one (.int .i64 u),.one (.int .i64 v)] m (.agg (tnC (Jr0 k c ro d n u v))) m:=by
 by_cases h0:k=0
 ·by_cases g:Je9 (Jk7 k ro d n u v) n<=0
  ·exact Xe5 k c ro d n u v m h0 g
  exact Xe6 k c ro d n u v m h0 g
 by_cases h1:k=1
 ·by_cases g:Je9 (Jk7 k ro d n u v) n<=0
  ·exact Xe3 k c ro d n u v m h1 g
  exact Xe4 k c ro d n u v m h1 g
 by_cases h2:k=2
 ·by_cases g:Je9 (Jk7 k ro d n u v) n<=0
  ·exact Xe1 k c ro d n u v m h2 g
  exact Xe2 k c ro d n u v m h2 g
 exact Xq5 k c ro d n u v m ⟨h0,h1,h2⟩
structure GoS (s:SC):Prop where
 xp:∀ i,i<s.nx->0<=s.xp i/\s.xp i<(s.np:Int)
 nx:s.nx<=128
 lm:(Jr3 s s.nx).length<=16
 w:1<=s.w/\s.w<=64
 h:1<=s.h/\s.h<=64
 dp:1<=s.dp/\s.dp<=6
 sm:1<=s.sm/\s.sm<=16
 fr:1<=s.fr/\s.fr<=32
 sh:0<=s.sh/\s.sh<=65536
structure SE where
 (x0 x1:CV) (sb sv lb lv:Nat) (T:RY->Int->Int->Nat)
def seC (s:SC)(R:RWs)(f:Int)(E:SE)(a b:VW):List CV:=scC s R++(.int .i64 f::E.x0::E.x1::.sl E.sb E.sv 0 s.nx::.sl E.lb E.lv 0 (Jr3 s s.nx).length::(vwC a++vwC b))
structure SetAt (m:Ja1)(p:Nat)(s:SC)(R:RWs)(f:Int)(E:SE)(a b:VW):Prop where
 hp:m[p]?=some ⟨.fix,135,0,0,seC s R f E a b⟩
 hR:ScR 140 119 223 148 155 m s R
 hs:∃ k ez,m[E.sb]?=some ⟨k,204,E.sv,ez,Jb6 s.nx (mF (mvS s f))⟩
 hl:∃ k ez,m[E.lb]?=some ⟨k,3,E.lv,ez,iC (Jr3 s s.nx)⟩
 hF:∀ (L:Ja1) (r:RY) (near far:Int),Ctr Tryz.prog 50 [.agg [E.x0,E.x1,.sl E.sb E.sv 0 s.nx],.agg (ryC r),.one (.int .i64 near),.one (.int .i64 far)] (m++L) (.tup [(true,htC (Jf1 r (mvS s f) (Js0 (Jd3 s f) r near far))),(false,[.bool (Js0 (Jd3 s f) r near far).isSome]),(false,[.int .i64 ((E.T r near far:Nat):Int)])]) (m++L)
 g:GoS s
theorem SetAt.app {m:Ja1}{p:Nat}{s:SC}{R:RWs}{f:Int}{E:SE}{a b:VW}(h:SetAt m p s R f E a b)(L:Ja1):SetAt (m++L) p s R f E a b where
 hp:=Ja5 h.hp L
 hR:=h.hR.app L
 hs:=by obtain ⟨k,e,q⟩:=h.hs;exact ⟨k,e,Ja5 q L⟩
 hl:=by obtain ⟨k,e,q⟩:=h.hl;exact ⟨k,e,Ja5 q L⟩
 hF:=fun L2 r near far=>by rw [List.append_assoc];exact h.hF (L++L2) r near far
 g:=h.g
theorem Ky7 (s:SC)(R:RWs)(f:Int)(E:SE)(a b:VW):seC s R f E a b=(scC s R++(.int .i64 f::E.x0::E.x1::.sl E.sb E.sv 0 s.nx::.sl E.lb E.lv 0 (Jr3 s s.nx).length::(vwC a++vwC b))):=rfl
theorem Km2 (s:SC)(R:RWs)(f:Int)(E:SE)(a b:VW)(p:Nat)(i:Nat)(m:Ja1)(hS:SetAt m p s R f E a b)(hi:i<s.nx):Ctr Tryz.prog 53 [.one (.ptr p 0 0),.one (.int .i64 ((i:Int)))] m (.agg (pC s (s.xp i).toNat)) m:=by
 refine Ctr.en Tryz.func53 [.cell 4 140] 22 fun hwf Q hQ=>?_
 have hG:=hS.g
 have hps:=hS.hp
 have lps:=Jb2 hps
 obtain ⟨kp,ep,hp⟩:=hS.hR.hp
 have lp:=Jb2 hp
 obtain ⟨kx,ex,hx⟩:=hS.hR.hx
 have lx:=Jb2 hx
 have np:=hS.hR.np
 have nx:=hS.hR.nx
 have pl:(Jb6 s.np (pC s)).length=s.np*5:=Ja9 (w:=5) (F:=pC s) (fun _=>rfl) _
 have xl:(Jb6 s.nx (xC s)).length=s.nx*13:=Ja9 (w:=13) (F:=xC s) (fun _=>rfl) _
 obtain ⟨j,hj⟩:∃ j,j=(s.xp i).toNat:=⟨_,rfl⟩
 have hxj:s.xp i=(j:Int):=by have:=hG.xp i hi;omega
 have hjn:j<s.np:=by have:=hG.xp i hi;omega
 have d1:(0:Int)<=(j:Int):=by omega
 have d2:(j:Int)<(s.np:Int):=by omega
 have d3:j*5+5<=s.np*5:=by omega
 have d4:=Jc0 (w:=5) (F:=pC s) (fun _=>rfl) hjn
 have d5:=Kc8 s j
 have d6:List.take 3 (List.drop (j*5+1) (Jb6 s.np (pC s)))=[.int .i64 (s.pc j 0),.int .i64 (s.pc j 1),.int .i64 (s.pc j 2)]:=by
   have e:(Jb6 s.np (pC s)).drop (j*5+1)=((Jb6 s.np (pC s)).drop (j*5)).drop 1:=by rw [List.drop_drop]
   have q:=congrArg (fun l=>List.take 3 (List.drop 1 l)) (d4.trans d5)
   rw [List.drop_take,List.take_take] at q
   rw [e];exact q
 have d7:j*5+1+3<=s.np*5:=by omega
 have x1:(0:Int)<=(i:Int):=by omega
 have x2:(i:Int)<(s.nx:Int):=by omega
 have x3:i*13+13<=s.nx*13:=by omega
 have x4:(Jb6 s.nx (xC s))[i*13+1]?=some (.int .i64 (s.xp i)):=Jh3 (w:=13) (F:=xC s) (fun _=>rfl) hi (a:=1) (by omega)
 rw [<-hj] at hQ
 have U1:=ca4 hps (Ja5 hps) hp (ca4 (Ja5 hp) hx (Ja5 hx) (ca4 pl xl @Ky7 (ca4 @Jf4 @Je7 @Jf3 (ca4 @Ja4 @Jy9 hxj (ca4 d1 d2 d3 (ca4 d4 d5 d6 (ca4 d7 x1 x2 (ca4 x3 x4 hjn hi))))))))
 refine AW.c 1 U1 Tru ?_
 refine AW.d [.val,.val,.val,.val,.rd 0,.val,.val,.val,.val,.rd 0,.val,.val,.val,.val,.rd 0,.val,.rd 0,.wr] fol U1 Tru ?_
 exact AW.ret (hQ _ _ _ (RetP.z hwf Tru))
theorem kyC_e (k:KY):kyC k=(Jn5 k.sd k.fr k.px k.sm):=rfl
theorem Xs6 (s:SC)(R:RWs)(f:Int)(E:SE)(a b:VW)(p:Nat)(k:KY)(d:Int)(h:HT)(hi:Nat)(t9:Int)(m:Ja1)(hS:SetAt m p s R f E a b)(hd:0<=d/\d<=1000)(hhi:h.i=(hi:Int))(hiH:hi<s.nx):Ctr Tryz.prog 54 [.one (.ptr p 0 0),.agg (kyC k),.one (.int .i64 d),.agg (htC h),.one (.int .i64 t9)] m (.agg (c3C (Jm8 (Jd3 s f) k d h hi t9))) m:=by
 refine Ctr.en Tryz.func54 [.cell 10 42] 121 fun hwf Q hQ=>?_
 have hG:=hS.g
 have hps:=hS.hp
 have lps:=Jb2 hps
 obtain ⟨kp,ep,hp⟩:=hS.hR.hp
 have lp:=Jb2 hp
 obtain ⟨kx,ex,hx⟩:=hS.hR.hx
 have lx:=Jb2 hx
 have np:=hS.hR.np
 have nx:=hS.hR.nx
 have pl:(Jb6 s.np (pC s)).length=s.np*5:=Ja9 (w:=5) (F:=pC s) (fun _=>rfl) _
 have xl:(Jb6 s.nx (xC s)).length=s.nx*13:=Ja9 (w:=13) (F:=xC s) (fun _=>rfl) _
 have hFi:=hS.hF
 obtain ⟨ks,es,hs⟩:=hS.hs
 have ls:=Jb2 hs
 obtain ⟨kl,el,hl⟩:=hS.hl
 have ll:=Jb2 hl
 have sc:(Jb6 s.nx (mF (mvS s f))).length=s.nx*24:=Ja9 (w:=24) (F:=mF (mvS s f)) (fun _=>rfl) _
 obtain ⟨lm,hlm⟩:∃ l,l=Jr3 s s.nx:=⟨_,rfl⟩
 have hwl:(Jd3 s f).lm=lm:=hlm.symm
 have hl16:=hS.g.lm
 have hllt:=Kv9 s s.nx
 rw [<-hlm] at hl hl16 hllt
 have lc:(iC lm).length=lm.length:=Jg8 _
 have wd1:IntKind.i64.wrap (d+1)=d+1:=wi (by omega)
 have wd2:IntKind.i64.wrap (d+2)=d+2:=wi (by omega)
 have U2:=ca4 hps (Ja5 hps) hs (ca4 (Ja5 hs) hl (Ja5 hl) (ca4 sc lc @Ky7 (ca4 @Jf4 @Je7 @Jf3 (ca4 @Ja4 @Jy9 @Jj3 (ca4 @kyC_e @Kn1 hhi (ca3 wd1 wd2 hlm.symm))))))
 refine AW.c 1 U2 Tru ?_
 refine AW.q fun K J0=>?_
 refine AW.q fun K J1=>?_
 by_cases h0:lm=[]
 ·have hv:Jm8 (Jd3 s f) k d h hi t9=z0V:=by unfold Jm8;rw [hwl,if_pos h0]
  rw [hv] at hQ
  have e0:((lm.length:Int) ==0)=true:=by rw [h0];rfl
  have U3:=ca3 U2 e0 @Jm9
  refine AW.g U3 Tru ?_
  apply J1
  apply AW.y rfl
  refine AW.c 1 U3 Tru ?_
  exact AW.ret (hQ _ _ _ (RetP.z hwf Tru))
 have e0:((lm.length:Int) ==0)=false:=by have:=List.length_pos_iff.2 h0;simp;omega
 have hpos:=List.length_pos_iff.2 h0
 obtain ⟨jx,hjx,hjl⟩:∃ jx:Nat,Jo9 k.sd k.fr k.px k.sm d (lm.length:Int)=(jx:Int)/\jx<lm.length:=by
   unfold Jo9
   rw [if_neg (by omega)]
   obtain ⟨z,hz⟩:∃ z,z=Jw6 k.sd k.fr k.px k.sm d / 2%(lm.length:Int):=⟨_,rfl⟩
   have m1:=Int.emod_nonneg (Jw6 k.sd k.fr k.px k.sm d / 2) (show (lm.length:Int)≠0 by omega)
   have m2:=Int.emod_lt_of_pos (Jw6 k.sd k.fr k.px k.sm d / 2) (show 0<(lm.length:Int) by omega)
   rw [<-hz] at m1 m2 ⊢
   exact ⟨z.toNat,(Int.toNat_of_nonneg m1).symm,by omega⟩
 obtain ⟨l,hl9⟩:∃ l,l=lm.getD jx 0:=⟨_,rfl⟩
 have hli:Qb4 (Jd3 s f) k d=l:=by unfold Qb4;rw [hwl,hjx,Int.toNat_natCast,<-hl9]
 have hcl:(iC lm)[jx]?=some (.int .i64 (l:Int)):=by rw [hl9];exact Kn5 hjl
 have hiL:l<s.nx:=hllt l (by rw [hl9,List.getD_eq_getElem?_getD,List.getElem?_eq_getElem hjl];exact List.getElem_mem _)
 have j1:(0:Int)<=(jx:Int):=by omega
 have j2:(jx:Int)<(lm.length:Int):=by omega
 have s1:(0:Int)<=(l:Int):=by omega
 have s2:(l:Int)<(s.nx:Int):=by omega
 have s3:l*24+24<=s.nx*24:=by omega
 have s4:=Jc0 (w:=24) (F:=mF (mvS s f)) (fun _=>rfl) hiL
 have s5:mF (mvS s f) l=[.int .i64 (mvS s f l).A.kind,.int .i64 (mvS s f l).A.paint,.int .i64 ((mvS s f l).A.P 0 0),.int .i64 ((mvS s f l).A.P 0 1),.int .i64 ((mvS s f l).A.P 0 2),.int .i64 ((mvS s f l).A.P 1 0),.int .i64 ((mvS s f l).A.P 1 1),.int .i64 ((mvS s f l).A.P 1 2),.int .i64 ((mvS s f l).A.P 2 0),.int .i64 ((mvS s f l).A.P 2 1),.int .i64 ((mvS s f l).A.P 2 2),.int .i64 (mvS s f l).A.r,.int .i64 (mvS s f l).B.kind,.int .i64 (mvS s f l).B.paint,.int .i64 ((mvS s f l).B.P 0 0),.int .i64 ((mvS s f l).B.P 0 1),.int .i64 ((mvS s f l).B.P 0 2),.int .i64 ((mvS s f l).B.P 1 0),.int .i64 ((mvS s f l).B.P 1 1),.int .i64 ((mvS s f l).B.P 1 2),.int .i64 ((mvS s f l).B.P 2 0),.int .i64 ((mvS s f l).B.P 2 1),.int .i64 ((mvS s f l).B.P 2 2),.int .i64 (mvS s f l).B.r]:=rfl
 have U4:=ca4 U2 e0 hcl (ca4 j1 j2 hjl (ca4 s1 s2 s3 (ca3 s4 s5 hiL)))
 refine AW.g U4 Tru ?_
 apply J1
 apply AW.x rfl
 apply AW.z
 apply J0
 have q_1:=Xk5 k.sd k.fr k.px k.sm d (lm.length:Int)
 rw [hjx] at q_1
 refine AW.d [.val,.val,.val,.rd 0,.rd 0,.val,.val,.val,.val,.rd 0,.val,.ext,.val,.rd 1,.val] fol U4 (q_1 _ (by omega)) ?_
 refine AW.q fun K J0=>?_
 refine AW.q fun K J1=>?_
 by_cases h1:l=hi
 ·have hv:Jm8 (Jd3 s f) k d h hi t9=z0V:=by unfold Jm8;rw [hwl,if_neg h0,hli,if_pos h1]
  rw [hv] at hQ
  have e1:((l:Int) ==(hi:Int))=true:=by rw [h1];simp
  have U5:=ca3 U4 e1 @Jm9
  refine AW.g U5 Tru ?_
  apply J1
  apply AW.y rfl
  refine AW.c 1 U5 Tru ?_
  exact AW.ret (hQ _ _ _ (RetP.z hwf Tru))
 have e1:((l:Int) ==(hi:Int))=false:=by simp;omega
 obtain ⟨Q,hQ9⟩:∃ Q,Q=Qb3 (Jd3 s f) k d t9:=⟨_,rfl⟩
 have hQs:Ke3 (atM (mvS s f l) t9) (k.u (d+1)) (k.u (d+2))=Q:=by rw [hQ9];unfold Qb3;rw [hli];rfl
 obtain ⟨rc,hrc⟩:∃ rc,rc=Jr6 h.p h.n Q:=⟨_,rfl⟩
 obtain ⟨U,hU⟩:∃ U,U=Jb8 (Jb4 Q h.p):=⟨_,rfl⟩
 obtain ⟨FA,hFA⟩:∃ FA,FA=Kb2 (Jb4 Q h.p):=⟨_,rfl⟩
 have U6:=ca2 U4 e1
 refine AW.g U6 Tru ?_
 apply J1
 apply AW.x rfl
 apply AW.z
 apply J0
 have q_2:=Xp4 (atM (mvS s f l) t9) (k.u (d+1)) (k.u (d+2))
 rw [hQs] at q_2
 refine AW.d [.val,.val,.val,.val,.rd 0,.val,.val,.rd 0,.val,.ext,.rd 0,.val,.val,.ext,.rd 0,.val,.val,.ext,.ext,.fl,.wr] fol U6 (ca4 (at_c (mvS s f l) t9) (Vf5 k.sd k.fr k.px k.sm (d+1)) (Vf5 k.sd k.fr k.px k.sm (d+2)) q_2) ?_
 have q_3:=Xd8 h.p h.n Q
 rw [<-hrc,<-hU,<-hFA] at q_3
 refine AW.c 1 U6 q_3 ?_
 refine AW.q fun K J0=>?_
 refine AW.q fun K J1=>?_
 by_cases h2:rc=0
 ·have hv:Jm8 (Jd3 s f) k d h hi t9=z0V:=by unfold Jm8;rw [hwl,if_neg h0,hli,if_neg h1,if_pos (by rw [<-hQ9,<-hrc];exact h2)]
  rw [hv] at hQ
  have e2:(rc ==0)=true:=beq_iff_eq.2 h2
  have U7:=ca3 U6 e2 @Jm9
  refine AW.g U7 Tru ?_
  apply J1
  apply AW.y rfl
  refine AW.c 1 U7 Tru ?_
  exact AW.ret (hQ _ _ _ (RetP.z hwf Tru))
 have e2:(rc ==0)=false:=by simpa using h2
 obtain ⟨r9,hr9⟩:∃ r:RY,r=⟨h.p,U,t9⟩:=⟨_,rfl⟩
 have hr8:ryC r9=[.int .i64 (h.p 0),.int .i64 (h.p 1),.int .i64 (h.p 2),.int .i64 (U 0),.int .i64 (U 1),.int .i64 (U 2),.int .i64 t9]:=by rw [hr9];rfl
 obtain ⟨G,hG⟩:∃ G,G=Xh1 (Jd3 s f) k d h t9:=⟨_,rfl⟩
 have hGf:Js0 (Jd3 s f) r9 1024 FA=G:=by rw [hG,hr9,hU,hFA,hQ9];rfl
 have U8:=ca2 U6 e2
 refine AW.g U8 Tru ?_
 apply J1
 apply AW.x rfl
 apply AW.z
 apply J0
 refine AW.q fun K J0=>?_
 refine AW.q fun K J1=>?_
 have hk10:G=none\/(∃ u9,G=some (u9,l))\/(∃ u9 j9,G=some (u9,j9)/\¬j9=l):=by
   rcases hG0:G with _|⟨u9,j9⟩
   · exact .inl rfl
   by_cases h3:j9=l
   · exact .inr (.inl ⟨u9,by rw [h3]⟩)
   exact .inr (.inr ⟨u9,j9,rfl,h3⟩)
 rcases hk10 with hG0|⟨u9,hG0⟩|⟨u9,j9,hG0,h3⟩
 ·have hb0:¬Xt0 l none=true:=fun q=>(nomatch q)
  have hz8:htC (Jf1 r9 (mvS s f) none)=[.int .i64 0,.int .i64 0,.int .i64 0,.int .i64 0,.int .i64 0,.int .i64 0,.int .i64 0,.int .i64 0]:=rfl
  obtain ⟨jh,hjH⟩:∃ j,j=(s.xp hi).toNat:=⟨_,rfl⟩
  obtain ⟨jl,hjK⟩:∃ j,j=(s.xp l).toNat:=⟨_,rfl⟩
  have dH:=Kc8 s jh
  have dK:=Kc8 s jl
  have hv:Jm8 (Jd3 s f) k d h hi t9=Je1 (Je2 (s.pc jh) (s.pc jl)) (Je0 rc (ofI (lm.length:Int))):=by
    unfold Jm8
    rw [hwl,if_neg h0,hli,if_neg h1,if_neg (by rw [<-hQ9,<-hrc];exact h2),if_neg (by rw [<-hG,hG0];exact hb0),<-hQ9,<-hrc]
    show Je1 (Je2 (s.pc (s.xp hi).toNat) (s.pc (s.xp l).toNat)) _=_
    rw [<-hjH,<-hjK]
  rw [hv] at hQ
  have q_4:=fun L=>hFi L r9 1024 FA
  rw [hGf,hG0,hr8] at q_4
  have U9:=ca4 U8 hz8 dH dK
  refine AW.e [.val,.val,.val,.rd 0,.val,.rd 0,.rd 0,.val,.val,.val,.ext,.val,.val,.val,.val,.fl,.wr,.val,.val] fol U9 q_4 ?_
  apply J1
  refine AW.c 1 U9 Tru ?_
  apply AW.x rfl
  apply AW.z
  apply J0
  have q_5:=Km2 s R f E a b p hi
  rw [<-hjH] at q_5
  have q_6:=Km2 s R f E a b p l
  rw [<-hjK] at q_6
  refine AW.c 1 U9 (ca3 (q_5 _ (hS.app _) hiH) (q_6 _ (hS.app _) hiL) (Kn6 (s.pc jh) (s.pc jl))) ?_
  refine AW.d [.rd 0,.val,.val,.val,.val,.rd 0,.val,.ext,.ext,.ext,.wr] fol U9 (ca3 Xn2 Jm7 (Qm0 (Je2 (s.pc jh) (s.pc jl)) (Je0 rc (ofI (lm.length:Int))))) ?_
  exact AW.ret (hQ _ _ _ (RetP.z hwf Tru))
 ·have hz9:(Jf1 r9 (mvS s f) (some (u9,l))).i=(l:Int):=rfl
  have e3:((l:Int) !=(l:Int))=false:=by simp
  have hb0:¬Xt0 l (some (u9,l))=true:=by show ¬(!(l ==l))=true;simp
  obtain ⟨jh,hjH⟩:∃ j,j=(s.xp hi).toNat:=⟨_,rfl⟩
  obtain ⟨jl,hjK⟩:∃ j,j=(s.xp l).toNat:=⟨_,rfl⟩
  have dH:=Kc8 s jh
  have dK:=Kc8 s jl
  have hv:Jm8 (Jd3 s f) k d h hi t9=Je1 (Je2 (s.pc jh) (s.pc jl)) (Je0 rc (ofI (lm.length:Int))):=by
    unfold Jm8
    rw [hwl,if_neg h0,hli,if_neg h1,if_neg (by rw [<-hQ9,<-hrc];exact h2),if_neg (by rw [<-hG,hG0];exact hb0),<-hQ9,<-hrc]
    show Je1 (Je2 (s.pc (s.xp hi).toNat) (s.pc (s.xp l).toNat)) _=_
    rw [<-hjH,<-hjK]
  rw [hv] at hQ
  have q_7:=fun L=>hFi L r9 1024 FA
  rw [hGf,hG0,hr8] at q_7
  have U10:=ca4 U8 hz9 e3 (ca2 dH dK)
  refine AW.e [.val,.val,.val,.rd 0,.val,.rd 0,.rd 0,.val,.val,.val,.ext,.val,.val,.val,.val,.fl,.wr,.val,.val] fol U10 q_7 ?_
  apply J1
  refine AW.c 1 U10 Tru ?_
  apply AW.x rfl
  apply AW.z
  apply J0
  have q_8:=Km2 s R f E a b p hi
  rw [<-hjH] at q_8
  have q_9:=Km2 s R f E a b p l
  rw [<-hjK] at q_9
  refine AW.c 1 U10 (ca3 (q_8 _ (hS.app _) hiH) (q_9 _ (hS.app _) hiL) (Kn6 (s.pc jh) (s.pc jl))) ?_
  refine AW.d [.rd 0,.val,.val,.val,.val,.rd 0,.val,.ext,.ext,.ext,.wr] fol U10 (ca3 Xn2 Jm7 (Qm0 (Je2 (s.pc jh) (s.pc jl)) (Je0 rc (ofI (lm.length:Int))))) ?_
  exact AW.ret (hQ _ _ _ (RetP.z hwf Tru))
 have hz9:(Jf1 r9 (mvS s f) (some (u9,j9))).i=(j9:Int):=rfl
 have e3:((j9:Int) !=(l:Int))=true:=by simp;omega
 have hv:Jm8 (Jd3 s f) k d h hi t9=z0V:=by unfold Jm8;rw [hwl,if_neg h0,hli,if_neg h1,if_neg (by rw [<-hQ9,<-hrc];exact h2),if_pos (by rw [<-hG,hG0];show (!(j9 ==l))=true;simpa using h3)]
 rw [hv] at hQ
 have q_10:=fun L=>hFi L r9 1024 FA
 rw [hGf,hG0,hr8] at q_10
 have U11:=ca4 U8 hz9 e3 @Jm9
 refine AW.e [.val,.val,.val,.rd 0,.val,.rd 0,.rd 0,.val,.val,.val,.ext,.val,.val,.val,.val,.fl,.wr,.val,.val] fol U11 q_10 ?_
 apply J1
 refine AW.c 1 U11 Tru ?_
 apply AW.y rfl
 refine AW.c 1 U11 Tru ?_
 exact AW.ret (hQ _ _ _ (RetP.z hwf Tru))
theorem Xc1 (s:SC)(R:RWs)(f:Int)(lr lv:Nat)(k:KY)(d:Int)(h:HT)(hi:Nat)(t9:Int)(m:Ja1)(hR:ScR 138 143 285 146 150 m s R)(hm:∃ k ez,m[lr]?=some ⟨k,78,lv,ez,Jb6 s.nx (mF (mvS s f))⟩)(hG:GoS s)(hd:0<=d/\d<=1000)(hhi:h.i=(hi:Int))(hiH:hi<s.nx):Ctr Tryz.prog 63 [.agg (scC s R),.one (.sl lr lv 0 s.nx),.agg (kyC k),.one (.int .i64 d),.agg (htC h),.one (.int .i64 t9)] m (.agg (c3C (Jm8 (Jd3 s f) k d h hi t9))) m:=by
 refine Ctr.en Tryz.func63 [.cell 12 24] 119 fun hwf Q hQ=>?_
 obtain ⟨kp,ep,hp⟩:=hR.hp
 have lp:=Jb2 hp
 obtain ⟨kx,ex,hx⟩:=hR.hx
 have lx:=Jb2 hx
 have np:=hR.np
 have nx:=hR.nx
 have pl:(Jb6 s.np (pC s)).length=s.np*5:=Ja9 (w:=5) (F:=pC s) (fun _=>rfl) _
 have xl:(Jb6 s.nx (xC s)).length=s.nx*13:=Ja9 (w:=13) (F:=xC s) (fun _=>rfl) _
 obtain ⟨ks,es,hs⟩:=hm
 have ls:=Jb2 hs
 have sc:(Jb6 s.nx (mF (mvS s f))).length=s.nx*24:=Ja9 (w:=24) (F:=mF (mvS s f)) (fun _=>rfl) _
 obtain ⟨lm,hlm⟩:∃ l,l=Jr3 s s.nx:=⟨_,rfl⟩
 have hwl:(Jd3 s f).lm=lm:=hlm.symm
 have hl16:=hG.lm
 have hllt:=Kv9 s s.nx
 rw [<-hlm] at hl16 hllt
 have lc:(iC lm).length=lm.length:=Jg8 _
 have wd1:IntKind.i64.wrap (d+1)=d+1:=wi (by omega)
 have wd2:IntKind.i64.wrap (d+2)=d+2:=wi (by omega)
 refine AW.sr 2 fun K J0=>?_
 have U1:=ca4 hp (Ja5 hp) hx (ca4 (Ja5 hx) hs (Ja5 hs) (ca4 pl xl sc (ca4 lc hhi wd1 wd2)))
 simp only [push_cast,simprocAttr,scC,hdC,tlC,c3C,htC,kyC,Jn5,U1]
 refine CThen.by ((by have h9:=fun M hR=>Xq2 s R M hR;rw [Kd2,Jx5,<-hlm] at h9;exact h9 _ (hR.app _))) ?_
 simp only [push_cast,simprocAttr,scC,hdC,tlC,c3C,htC,kyC,Jn5,U1]
 apply J0
 refine AW.q fun K J0=>?_
 refine AW.q fun K J1=>?_
 by_cases h0:lm=[]
 ·have hv:Jm8 (Jd3 s f) k d h hi t9=z0V:=by unfold Jm8;rw [hwl,if_pos h0]
  rw [hv] at hQ
  have e0:((lm.length:Int) ==0)=true:=by rw [h0];rfl
  refine AW.rg ?_
  simp only [push_cast,simprocAttr,scC,hdC,tlC,c3C,htC,kyC,Jn5,U1,e0,z0V]
  apply J1
  apply AW.y rfl
  refine AW.sr 1 fun K J1=>?_
  simp only [push_cast,simprocAttr,scC,hdC,tlC,c3C,htC,kyC,Jn5,U1,e0,z0V]
  apply J1
  refine AW.ret ?_
  apply Jc8
  refine hQ _ _ _ ?_
  first|refine RetP.drop0 (by first|exact Or.inr rfl|exact Or.inl rfl) ?_ ?_ hwf|refine RetP.drop (by first|exact Or.inr rfl|exact Or.inl rfl) ?_ ?_ hwf
  · (simp only [Jd0,Ja7,Jb5,AV.tv,push_cast,simprocAttr])<;>rfl
  rfl
 have e0:((lm.length:Int) ==0)=false:=by have:=List.length_pos_iff.2 h0;simp;omega
 have hpos:=List.length_pos_iff.2 h0
 obtain ⟨jx,hjx,hjl⟩:∃ jx:Nat,Jo9 k.sd k.fr k.px k.sm d (lm.length:Int)=(jx:Int)/\jx<lm.length:=by
   unfold Jo9
   rw [if_neg (by omega)]
   obtain ⟨z,hz⟩:∃ z,z=Jw6 k.sd k.fr k.px k.sm d / 2%(lm.length:Int):=⟨_,rfl⟩
   have m1:=Int.emod_nonneg (Jw6 k.sd k.fr k.px k.sm d / 2) (show (lm.length:Int)≠0 by omega)
   have m2:=Int.emod_lt_of_pos (Jw6 k.sd k.fr k.px k.sm d / 2) (show 0<(lm.length:Int) by omega)
   rw [<-hz] at m1 m2 ⊢
   exact ⟨z.toNat,(Int.toNat_of_nonneg m1).symm,by omega⟩
 obtain ⟨l,hl9⟩:∃ l,l=lm.getD jx 0:=⟨_,rfl⟩
 have hli:Qb4 (Jd3 s f) k d=l:=by unfold Qb4;rw [hwl,hjx,Int.toNat_natCast,<-hl9]
 have hcl:(iC lm)[jx]?=some (.int .i64 (l:Int)):=by rw [hl9];exact Kn5 hjl
 have hiL:l<s.nx:=hllt l (by rw [hl9,List.getD_eq_getElem?_getD,List.getElem?_eq_getElem hjl];exact List.getElem_mem _)
 have j1:(0:Int)<=(jx:Int):=by omega
 have j2:(jx:Int)<(lm.length:Int):=by omega
 have s1:(0:Int)<=(l:Int):=by omega
 have s2:(l:Int)<(s.nx:Int):=by omega
 have s3:l*24+24<=s.nx*24:=by omega
 have s4:=Jc0 (w:=24) (F:=mF (mvS s f)) (fun _=>rfl) hiL
 have s5:mF (mvS s f) l=[.int .i64 (mvS s f l).A.kind,.int .i64 (mvS s f l).A.paint,.int .i64 ((mvS s f l).A.P 0 0),.int .i64 ((mvS s f l).A.P 0 1),.int .i64 ((mvS s f l).A.P 0 2),.int .i64 ((mvS s f l).A.P 1 0),.int .i64 ((mvS s f l).A.P 1 1),.int .i64 ((mvS s f l).A.P 1 2),.int .i64 ((mvS s f l).A.P 2 0),.int .i64 ((mvS s f l).A.P 2 1),.int .i64 ((mvS s f l).A.P 2 2),.int .i64 (mvS s f l).A.r,.int .i64 (mvS s f l).B.kind,.int .i64 (mvS s f l).B.paint,.int .i64 ((mvS s f l).B.P 0 0),.int .i64 ((mvS s f l).B.P 0 1),.int .i64 ((mvS s f l).B.P 0 2),.int .i64 ((mvS s f l).B.P 1 0),.int .i64 ((mvS s f l).B.P 1 1),.int .i64 ((mvS s f l).B.P 1 2),.int .i64 ((mvS s f l).B.P 2 0),.int .i64 ((mvS s f l).B.P 2 1),.int .i64 ((mvS s f l).B.P 2 2),.int .i64 (mvS s f l).B.r]:=rfl
 refine AW.rg ?_
 have U2:=ca4 U1 e0 hcl (ca4 j1 j2 hjl (ca4 s1 s2 s3 (ca3 s4 s5 hiL)))
 simp only [push_cast,simprocAttr,scC,hdC,tlC,c3C,htC,kyC,Jn5,U2]
 apply J1
 apply AW.x rfl
 apply AW.z
 apply J0
 refine AW.sr 1 fun K J0=>?_
 simp only [push_cast,simprocAttr,scC,hdC,tlC,c3C,htC,kyC,Jn5,U2]
 refine CThen.by ((by have h9:=Vn5 k.sd k.fr k.px k.sm d (lm.length:Int);rw [hjx] at h9;exact h9 _ (by omega))) ?_
 simp only [push_cast,simprocAttr,scC,hdC,tlC,c3C,htC,kyC,Jn5,U2]
 apply J0
 refine AW.q fun K J0=>?_
 refine AW.q fun K J1=>?_
 by_cases h1:l=hi
 ·have hv:Jm8 (Jd3 s f) k d h hi t9=z0V:=by unfold Jm8;rw [hwl,if_neg h0,hli,if_pos h1]
  rw [hv] at hQ
  have e1:((l:Int) ==(hi:Int))=true:=by rw [h1];simp
  refine AW.rg ?_
  simp only [push_cast,simprocAttr,scC,hdC,tlC,c3C,htC,kyC,Jn5,U2,e1,z0V]
  apply J1
  apply AW.y rfl
  refine AW.sr 1 fun K J1=>?_
  simp only [push_cast,simprocAttr,scC,hdC,tlC,c3C,htC,kyC,Jn5,U2,e1,z0V]
  apply J1
  refine AW.ret ?_
  apply Jc8
  refine hQ _ _ _ ?_
  first|refine RetP.drop0 (by first|exact Or.inr rfl|exact Or.inl rfl) ?_ ?_ hwf|refine RetP.drop (by first|exact Or.inr rfl|exact Or.inl rfl) ?_ ?_ hwf
  · (simp only [Jd0,Ja7,Jb5,AV.tv,push_cast,simprocAttr])<;>rfl
  rfl
 have e1:((l:Int) ==(hi:Int))=false:=by simp;omega
 obtain ⟨Q,hQ9⟩:∃ Q,Q=Qb3 (Jd3 s f) k d t9:=⟨_,rfl⟩
 have hQs:Ke3 (atM (mvS s f l) t9) (k.u (d+1)) (k.u (d+2))=Q:=by rw [hQ9];unfold Qb3;rw [hli];rfl
 obtain ⟨rc,hrc⟩:∃ rc,rc=Jr6 h.p h.n Q:=⟨_,rfl⟩
 obtain ⟨U,hU⟩:∃ U,U=Jb8 (Jb4 Q h.p):=⟨_,rfl⟩
 obtain ⟨FA,hFA⟩:∃ FA,FA=Kb2 (Jb4 Q h.p):=⟨_,rfl⟩
 refine AW.rg ?_
 simp only [push_cast,simprocAttr,scC,hdC,tlC,c3C,htC,kyC,Jn5,U2,e1]
 apply J1
 apply AW.x rfl
 apply AW.z
 apply J0
 refine AW.q fun K J0=>?_
 refine AW.draw [.val,.val,.val,.rd 0,.val,.ext,.rd 0,.val,.val,.ext,.rd 0,.val,.val,.ext,.ext,.fl,.wr] fol (by decide) (by kernel_rfl) ?_
 simp only [push_cast,simprocAttr,scC,hdC,tlC,c3C,htC,kyC,Jn5,U2,e1]
 refine DCall.z (Qj5 (mvS s f l) t9 _) ?_
 simp only [push_cast,simprocAttr,scC,hdC,tlC,c3C,htC,kyC,Jn5,U2,e1]
 refine DCall.z (Qe7 k.sd k.fr k.px k.sm (d+1) _) ?_
 simp only [push_cast,simprocAttr,scC,hdC,tlC,c3C,htC,kyC,Jn5,U2,e1]
 refine DCall.z (Qe7 k.sd k.fr k.px k.sm (d+2) _) ?_
 simp only [push_cast,simprocAttr,scC,hdC,tlC,c3C,htC,kyC,Jn5,U2,e1]
 refine DCall.z ((by have h9:=Xb1 (atM (mvS s f l) t9) (k.u (d+1)) (k.u (d+2));rw [hQs] at h9;exact h9 _)) ?_
 simp only [push_cast,simprocAttr,scC,hdC,tlC,c3C,htC,kyC,Jn5,U2,e1]
 apply J0
 refine AW.sr 1 fun K J0=>?_
 simp only [push_cast,simprocAttr,scC,hdC,tlC,c3C,htC,kyC,Jn5,U2,e1]
 refine CThen.by ((by have h9:=Vm6 h.p h.n Q;rw [<-hrc,<-hU,<-hFA] at h9;exact h9 _)) ?_
 simp only [push_cast,simprocAttr,scC,hdC,tlC,c3C,htC,kyC,Jn5,U2,e1]
 apply J0
 refine AW.q fun K J0=>?_
 refine AW.q fun K J1=>?_
 by_cases h2:rc=0
 ·have hv:Jm8 (Jd3 s f) k d h hi t9=z0V:=by unfold Jm8;rw [hwl,if_neg h0,hli,if_neg h1,if_pos (by rw [<-hQ9,<-hrc];exact h2)]
  rw [hv] at hQ
  have e2:(rc ==0)=true:=beq_iff_eq.2 h2
  refine AW.rg ?_
  simp only [push_cast,simprocAttr,scC,hdC,tlC,c3C,htC,kyC,Jn5,U2,e1,e2,z0V]
  apply J1
  apply AW.y rfl
  refine AW.sr 1 fun K J1=>?_
  simp only [push_cast,simprocAttr,scC,hdC,tlC,c3C,htC,kyC,Jn5,U2,e1,e2,z0V]
  apply J1
  refine AW.ret ?_
  apply Jc8
  refine hQ _ _ _ ?_
  first|refine RetP.drop0 (by first|exact Or.inr rfl|exact Or.inl rfl) ?_ ?_ hwf|refine RetP.drop (by first|exact Or.inr rfl|exact Or.inl rfl) ?_ ?_ hwf
  · (simp only [Jd0,Ja7,Jb5,AV.tv,push_cast,simprocAttr])<;>rfl
  rfl
 have e2:(rc ==0)=false:=by simpa using h2
 obtain ⟨r9,hr9⟩:∃ r:RY,r=⟨h.p,U,t9⟩:=⟨_,rfl⟩
 have hr8:ryC r9=[.int .i64 (h.p 0),.int .i64 (h.p 1),.int .i64 (h.p 2),.int .i64 (U 0),.int .i64 (U 1),.int .i64 (U 2),.int .i64 t9]:=by rw [hr9];rfl
 obtain ⟨G,hG9⟩:∃ G,G=Xh1 (Jd3 s f) k d h t9:=⟨_,rfl⟩
 have hGf:Jh1 (Hq r9 (mvS s f) 1024 FA) s.nx=G:=by rw [hG9,hr9,hU,hFA,hQ9];rfl
 refine AW.rg ?_
 simp only [push_cast,simprocAttr,scC,hdC,tlC,c3C,htC,kyC,Jn5,U2,e1,e2]
 apply J1
 apply AW.x rfl
 apply AW.z
 apply J0
 refine AW.q fun K J0=>?_
 have hiA:=hiH
 have hiB:=hiL
 have hk10:G=none\/(∃ u9,G=some (u9,l))\/(∃ u9 j9,G=some (u9,j9)/\¬j9=l):=by
   rcases hG0:G with _|⟨u9,j9⟩
   · exact .inl rfl
   by_cases h3:j9=l
   · exact .inr (.inl ⟨u9,by rw [h3]⟩)
   exact .inr (.inr ⟨u9,j9,rfl,h3⟩)
 rcases hk10 with hG0|⟨u9,hG0⟩|⟨u9,j9,hG0,h3⟩
 ·have hb0:¬Xt0 l none=true:=fun q=>(nomatch q)
  have hz8:htC (Jf1 r9 (mvS s f) none)=[.int .i64 0,.int .i64 0,.int .i64 0,.int .i64 0,.int .i64 0,.int .i64 0,.int .i64 0,.int .i64 0]:=rfl
  obtain ⟨jh,hjA⟩:∃ j,j=(s.xp hi).toNat:=⟨_,rfl⟩
  have hxjA:s.xp hi=(jh:Int):=by have:=hG.xp hi hiA;omega
  have hjnA:jh<s.np:=by have:=hG.xp hi hiA;omega
  have d1A:(0:Int)<=(jh:Int):=by omega
  have d2A:(jh:Int)<(s.np:Int):=by omega
  have d3A:jh*5+5<=s.np*5:=by omega
  have d4A:=Jc0 (w:=5) (F:=pC s) (fun _=>rfl) hjnA
  have d5A:=Kc8 s jh
  have d6A:List.take 3 (List.drop (jh*5+1) (Jb6 s.np (pC s)))=[.int .i64 (s.pc jh 0),.int .i64 (s.pc jh 1),.int .i64 (s.pc jh 2)]:=by
    have e:(Jb6 s.np (pC s)).drop (jh*5+1)=((Jb6 s.np (pC s)).drop (jh*5)).drop 1:=by rw [List.drop_drop]
    have q:=congrArg (fun l=>List.take 3 (List.drop 1 l)) (d4A.trans d5A)
    rw [List.drop_take,List.take_take] at q
    rw [e];exact q
  have d7A:jh*5+1+3<=s.np*5:=by omega
  have x1A:(0:Int)<=(hi:Int):=by omega
  have x2A:(hi:Int)<(s.nx:Int):=by omega
  have x3A:hi*13+13<=s.nx*13:=by omega
  have x4A:(Jb6 s.nx (xC s))[hi*13+1]?=some (.int .i64 (s.xp hi)):=Jh3 (w:=13) (F:=xC s) (fun _=>rfl) hiA (a:=1) (by omega)
  obtain ⟨jl,hjB⟩:∃ j,j=(s.xp l).toNat:=⟨_,rfl⟩
  have hxjB:s.xp l=(jl:Int):=by have:=hG.xp l hiB;omega
  have hjnB:jl<s.np:=by have:=hG.xp l hiB;omega
  have d1B:(0:Int)<=(jl:Int):=by omega
  have d2B:(jl:Int)<(s.np:Int):=by omega
  have d3B:jl*5+5<=s.np*5:=by omega
  have d4B:=Jc0 (w:=5) (F:=pC s) (fun _=>rfl) hjnB
  have d5B:=Kc8 s jl
  have d6B:List.take 3 (List.drop (jl*5+1) (Jb6 s.np (pC s)))=[.int .i64 (s.pc jl 0),.int .i64 (s.pc jl 1),.int .i64 (s.pc jl 2)]:=by
    have e:(Jb6 s.np (pC s)).drop (jl*5+1)=((Jb6 s.np (pC s)).drop (jl*5)).drop 1:=by rw [List.drop_drop]
    have q:=congrArg (fun l=>List.take 3 (List.drop 1 l)) (d4B.trans d5B)
    rw [List.drop_take,List.take_take] at q
    rw [e];exact q
  have d7B:jl*5+1+3<=s.np*5:=by omega
  have x1B:(0:Int)<=(l:Int):=by omega
  have x2B:(l:Int)<(s.nx:Int):=by omega
  have x3B:l*13+13<=s.nx*13:=by omega
  have x4B:(Jb6 s.nx (xC s))[l*13+1]?=some (.int .i64 (s.xp l)):=Jh3 (w:=13) (F:=xC s) (fun _=>rfl) hiB (a:=1) (by omega)
  have hv:Jm8 (Jd3 s f) k d h hi t9=Je1 (Je2 (s.pc jh) (s.pc jl)) (Je0 rc (ofI (lm.length:Int))):=by
    unfold Jm8
    rw [hwl,if_neg h0,hli,if_neg h1,if_neg (by rw [<-hQ9,<-hrc];exact h2),if_neg (by rw [<-hG9,hG0];exact hb0),<-hQ9,<-hrc]
    show Je1 (Je2 (s.pc (s.xp hi).toNat) (s.pc (s.xp l).toNat)) _=_
    rw [<-hjA,<-hjB]
  rw [hv] at hQ
  refine AW.rg ?_
  have U3:=ca4 U2 e1 e2 (ca4 hz8 hxjA d1A (ca4 d2A d3A d4A (ca4 d5A d6A d7A (ca4 x1A x2A x3A (ca4 x4A hjnA hiA (ca4 hxjB d1B d2B (ca4 d3B d4B d5B (ca4 d6B d7B x1B (ca4 x2B x3B x4B (ca2 hjnB hiB))))))))))
  simp only [push_cast,simprocAttr,scC,hdC,tlC,c3C,htC,kyC,Jn5,U3]
  refine CThen.by ((by have h9:=fun M hb=>Kk3 r9 (mvS s f) lr lv s.nx 1024 FA M hb (by have:=hG.nx;omega);rw [hGf,hG0,hr8] at h9;exact h9 _ ⟨_,_,Ja5 hs _⟩)) ?_
  simp only [push_cast,simprocAttr,scC,hdC,tlC,c3C,htC,kyC,Jn5,U3]
  apply J0
  refine AW.q fun K J0=>?_
  refine AW.sr 1 fun K J1=>?_
  simp only [push_cast,simprocAttr,scC,hdC,tlC,c3C,htC,kyC,Jn5,U3]
  apply J1
  apply AW.x rfl
  apply AW.z
  apply J0
  refine AW.q fun K J0=>?_
  refine AW.draw [.val,.rd 0,.val,.rd 0,.val,.rd 0,.val,.val,.rd 0,.val,.val,.rd 0,.val,.rd 0,.val,.rd 0,.val,.val,.val,.rd 0,.val,.val,.rd 0,.ext,.fl,.wr] fol (by decide) (by kernel_rfl) ?_
  simp only [push_cast,simprocAttr,scC,hdC,tlC,c3C,htC,kyC,Jn5,U3]
  refine DCall.z (Ka0 (s.pc jh) (s.pc jl) _) ?_
  simp only [push_cast,simprocAttr,scC,hdC,tlC,c3C,htC,kyC,Jn5,U3]
  apply J0
  refine AW.q fun K J0=>?_
  refine AW.draw [.rd 0,.val,.val,.val,.ext,.ext,.ext,.wr] fol (by decide) (by kernel_rfl) ?_
  simp only [push_cast,simprocAttr,scC,hdC,tlC,c3C,htC,kyC,Jn5,U3]
  refine DCall.z (Kz5 _ _) ?_
  simp only [push_cast,simprocAttr,scC,hdC,tlC,c3C,htC,kyC,Jn5,U3]
  refine DCall.z (Jg6 _ _ _) ?_
  simp only [push_cast,simprocAttr,scC,hdC,tlC,c3C,htC,kyC,Jn5,U3]
  refine DCall.z (Kz7 (Je2 (s.pc jh) (s.pc jl)) (Je0 rc (ofI (lm.length:Int))) _) ?_
  simp only [push_cast,simprocAttr,scC,hdC,tlC,c3C,htC,kyC,Jn5,U3]
  apply J0
  refine AW.ret ?_
  refine hQ _ _ _ ?_
  first|refine RetP.drop0 (by first|exact Or.inr rfl|exact Or.inl rfl) ?_ ?_ hwf|refine RetP.drop (by first|exact Or.inr rfl|exact Or.inl rfl) ?_ ?_ hwf
  · (simp only [Jd0,Ja7,Jb5,AV.tv,push_cast,simprocAttr])<;>rfl
  rfl
 ·have hz9:(Jf1 r9 (mvS s f) (some (u9,l))).i=(l:Int):=rfl
  have e3:((l:Int) !=(l:Int))=false:=by simp
  have hb0:¬Xt0 l (some (u9,l))=true:=by show ¬(!(l ==l))=true;simp
  obtain ⟨jh,hjA⟩:∃ j,j=(s.xp hi).toNat:=⟨_,rfl⟩
  have hxjA:s.xp hi=(jh:Int):=by have:=hG.xp hi hiA;omega
  have hjnA:jh<s.np:=by have:=hG.xp hi hiA;omega
  have d1A:(0:Int)<=(jh:Int):=by omega
  have d2A:(jh:Int)<(s.np:Int):=by omega
  have d3A:jh*5+5<=s.np*5:=by omega
  have d4A:=Jc0 (w:=5) (F:=pC s) (fun _=>rfl) hjnA
  have d5A:=Kc8 s jh
  have d6A:List.take 3 (List.drop (jh*5+1) (Jb6 s.np (pC s)))=[.int .i64 (s.pc jh 0),.int .i64 (s.pc jh 1),.int .i64 (s.pc jh 2)]:=by
    have e:(Jb6 s.np (pC s)).drop (jh*5+1)=((Jb6 s.np (pC s)).drop (jh*5)).drop 1:=by rw [List.drop_drop]
    have q:=congrArg (fun l=>List.take 3 (List.drop 1 l)) (d4A.trans d5A)
    rw [List.drop_take,List.take_take] at q
    rw [e];exact q
  have d7A:jh*5+1+3<=s.np*5:=by omega
  have x1A:(0:Int)<=(hi:Int):=by omega
  have x2A:(hi:Int)<(s.nx:Int):=by omega
  have x3A:hi*13+13<=s.nx*13:=by omega
  have x4A:(Jb6 s.nx (xC s))[hi*13+1]?=some (.int .i64 (s.xp hi)):=Jh3 (w:=13) (F:=xC s) (fun _=>rfl) hiA (a:=1) (by omega)
  obtain ⟨jl,hjB⟩:∃ j,j=(s.xp l).toNat:=⟨_,rfl⟩
  have hxjB:s.xp l=(jl:Int):=by have:=hG.xp l hiB;omega
  have hjnB:jl<s.np:=by have:=hG.xp l hiB;omega
  have d1B:(0:Int)<=(jl:Int):=by omega
  have d2B:(jl:Int)<(s.np:Int):=by omega
  have d3B:jl*5+5<=s.np*5:=by omega
  have d4B:=Jc0 (w:=5) (F:=pC s) (fun _=>rfl) hjnB
  have d5B:=Kc8 s jl
  have d6B:List.take 3 (List.drop (jl*5+1) (Jb6 s.np (pC s)))=[.int .i64 (s.pc jl 0),.int .i64 (s.pc jl 1),.int .i64 (s.pc jl 2)]:=by
    have e:(Jb6 s.np (pC s)).drop (jl*5+1)=((Jb6 s.np (pC s)).drop (jl*5)).drop 1:=by rw [List.drop_drop]
    have q:=congrArg (fun l=>List.take 3 (List.drop 1 l)) (d4B.trans d5B)
    rw [List.drop_take,List.take_take] at q
    rw [e];exact q
  have d7B:jl*5+1+3<=s.np*5:=by omega
  have x1B:(0:Int)<=(l:Int):=by omega
  have x2B:(l:Int)<(s.nx:Int):=by omega
  have x3B:l*13+13<=s.nx*13:=by omega
  have x4B:(Jb6 s.nx (xC s))[l*13+1]?=some (.int .i64 (s.xp l)):=Jh3 (w:=13) (F:=xC s) (fun _=>rfl) hiB (a:=1) (by omega)
  have hv:Jm8 (Jd3 s f) k d h hi t9=Je1 (Je2 (s.pc jh) (s.pc jl)) (Je0 rc (ofI (lm.length:Int))):=by
    unfold Jm8
    rw [hwl,if_neg h0,hli,if_neg h1,if_neg (by rw [<-hQ9,<-hrc];exact h2),if_neg (by rw [<-hG9,hG0];exact hb0),<-hQ9,<-hrc]
    show Je1 (Je2 (s.pc (s.xp hi).toNat) (s.pc (s.xp l).toNat)) _=_
    rw [<-hjA,<-hjB]
  rw [hv] at hQ
  refine AW.rg ?_
  have U4:=ca4 U2 e1 e2 (ca4 hz9 e3 hxjA (ca4 d1A d2A d3A (ca4 d4A d5A d6A (ca4 d7A x1A x2A (ca4 x3A x4A hjnA (ca4 hiA hxjB d1B (ca4 d2B d3B d4B (ca4 d5B d6B d7B (ca4 x1B x2B x3B (ca3 x4B hjnB hiB))))))))))
  simp only [push_cast,simprocAttr,scC,hdC,tlC,c3C,htC,kyC,Jn5,U4]
  refine CThen.by ((by have h9:=fun M hb=>Kk3 r9 (mvS s f) lr lv s.nx 1024 FA M hb (by have:=hG.nx;omega);rw [hGf,hG0,hr8] at h9;exact h9 _ ⟨_,_,Ja5 hs _⟩)) ?_
  simp only [push_cast,simprocAttr,scC,hdC,tlC,c3C,htC,kyC,Jn5,U4]
  apply J0
  refine AW.q fun K J0=>?_
  refine AW.sr 1 fun K J1=>?_
  simp only [push_cast,simprocAttr,scC,hdC,tlC,c3C,htC,kyC,Jn5,U4]
  apply J1
  apply AW.x rfl
  apply AW.z
  apply J0
  refine AW.q fun K J0=>?_
  refine AW.draw [.val,.rd 0,.val,.rd 0,.val,.rd 0,.val,.val,.rd 0,.val,.val,.rd 0,.val,.rd 0,.val,.rd 0,.val,.val,.val,.rd 0,.val,.val,.rd 0,.ext,.fl,.wr] fol (by decide) (by kernel_rfl) ?_
  simp only [push_cast,simprocAttr,scC,hdC,tlC,c3C,htC,kyC,Jn5,U4]
  refine DCall.z (Ka0 (s.pc jh) (s.pc jl) _) ?_
  simp only [push_cast,simprocAttr,scC,hdC,tlC,c3C,htC,kyC,Jn5,U4]
  apply J0
  refine AW.q fun K J0=>?_
  refine AW.draw [.rd 0,.val,.val,.val,.ext,.ext,.ext,.wr] fol (by decide) (by kernel_rfl) ?_
  simp only [push_cast,simprocAttr,scC,hdC,tlC,c3C,htC,kyC,Jn5,U4]
  refine DCall.z (Kz5 _ _) ?_
  simp only [push_cast,simprocAttr,scC,hdC,tlC,c3C,htC,kyC,Jn5,U4]
  refine DCall.z (Jg6 _ _ _) ?_
  simp only [push_cast,simprocAttr,scC,hdC,tlC,c3C,htC,kyC,Jn5,U4]
  refine DCall.z (Kz7 (Je2 (s.pc jh) (s.pc jl)) (Je0 rc (ofI (lm.length:Int))) _) ?_
  simp only [push_cast,simprocAttr,scC,hdC,tlC,c3C,htC,kyC,Jn5,U4]
  apply J0
  refine AW.ret ?_
  refine hQ _ _ _ ?_
  first|refine RetP.drop0 (by first|exact Or.inr rfl|exact Or.inl rfl) ?_ ?_ hwf|refine RetP.drop (by first|exact Or.inr rfl|exact Or.inl rfl) ?_ ?_ hwf
  · (simp only [Jd0,Ja7,Jb5,AV.tv,push_cast,simprocAttr])<;>rfl
  rfl
 have hz9:(Jf1 r9 (mvS s f) (some (u9,j9))).i=(j9:Int):=rfl
 have e3:((j9:Int) !=(l:Int))=true:=by simp;omega
 have hv:Jm8 (Jd3 s f) k d h hi t9=z0V:=by unfold Jm8;rw [hwl,if_neg h0,hli,if_neg h1,if_neg (by rw [<-hQ9,<-hrc];exact h2),if_pos (by rw [<-hG9,hG0];show (!(j9 ==l))=true;simpa using h3)]
 rw [hv] at hQ
 refine AW.rg ?_
 have U5:=ca4 U2 e1 e2 (ca2 hz9 e3)
 simp only [push_cast,simprocAttr,scC,hdC,tlC,c3C,htC,kyC,Jn5,z0V,U5]
 refine CThen.by ((by have h9:=fun M hb=>Kk3 r9 (mvS s f) lr lv s.nx 1024 FA M hb (by have:=hG.nx;omega);rw [hGf,hG0,hr8] at h9;exact h9 _ ⟨_,_,Ja5 hs _⟩)) ?_
 simp only [push_cast,simprocAttr,scC,hdC,tlC,c3C,htC,kyC,Jn5,z0V,U5]
 apply J0
 refine AW.q fun K J0=>?_
 refine AW.sr 1 fun K J1=>?_
 simp only [push_cast,simprocAttr,scC,hdC,tlC,c3C,htC,kyC,Jn5,z0V,U5]
 apply J1
 apply AW.y rfl
 refine AW.sr 1 fun K J1=>?_
 simp only [push_cast,simprocAttr,scC,hdC,tlC,c3C,htC,kyC,Jn5,z0V,U5]
 apply J1
 refine AW.ret ?_
 apply Jc8
 refine hQ _ _ _ ?_
 first|refine RetP.drop0 (by first|exact Or.inr rfl|exact Or.inl rfl) ?_ ?_ hwf|refine RetP.drop (by first|exact Or.inr rfl|exact Or.inl rfl) ?_ ?_ hwf
 · (simp only [Jd0,Ja7,Jb5,AV.tv,push_cast,simprocAttr])<;>rfl
 rfl
structure QT where
 (b:Nat) (s:TS)
noncomputable def Jh0 (s:SC)(f:Int)(a b:VW)(x y sm:Int):SN:=Jw1 (Jd3 s f) (Qk4 s f x y sm) s.dp.toNat 0 ⟨Ky6 ((Qk4 s f x y sm).u 2),fun _=>65536,true,Vi2 (Xg1 a b ((Qk4 s f x y sm).u 2)) x y ((Qk4 s f x y sm).u 0) ((Qk4 s f x y sm).u 1) ((Qk4 s f x y sm).u 2)⟩
theorem Ka4 (k:KY)(i:Int)(m:Ja1):Ctr Tryz.prog 47 [.agg (kyC k),.one (.int .i64 i)] m (.one (.int .i64 (k.u i))) m:=Vf5 k.sd k.fr k.px k.sm i m
theorem Jv3 (k:KY)(i:Int)(m:Ja1):Ctr Tryz.prog 57 [.agg (kyC k),.one (.int .i64 i)] m (.one (.int .i64 (k.u i))) m:=Qe7 k.sd k.fr k.px k.sm i m
theorem Kt0 (s:SC)(R:RWs)(f:Int)(E:SE)(a b:VW)(p:Nat)(x y sm:Int)(m:Ja1)(hS:SetAt m p s R f E a b)(hx0:0<=x)(hx1:x<s.w)(hy0:0<=y)(hy1:y<s.h):Ctr Tryz.prog 13 [.one (.ptr p 0 0),.one (.int .i64 x),.one (.int .i64 y),.one (.int .i64 sm)] m (.agg (snC (Jh0 s f a b x y sm))) m:=by
 refine Ctr.en Tryz.func13 [.cell 8 61] 232 fun hwf Q hQ=>?_
 have hps:=hS.hp
 have lps:=Jb2 hps
 have hG:=hS.g
 have hFi:=hS.hF
 have hgw:=hG.w
 have hgh:=hG.h
 have hgd:=hG.dp
 have h1:¬x<0:=by omega
 have h2:¬s.w<=x:=by omega
 have h3:¬y<0:=by omega
 have h4:¬s.h<=y:=by omega
 have hm1:0<=y*s.w:=Int.mul_nonneg (by omega) (by omega)
 have hm2:y*s.w<=64*64:=Int.mul_le_mul (by omega) (by omega) (by omega) (by omega)
 obtain ⟨yw,hyw⟩:∃ z,y*s.w=z:=⟨_,rfl⟩
 rw [hyw] at hm1 hm2
 have w1:IntKind.i64.wrap yw=yw:=wi (by omega)
 have w2:IntKind.i64.wrap (yw+x)=yw+x:=wi (by omega)
 obtain ⟨R9,hR0⟩:∃ R,Jh0 s f a b x y sm=R:=⟨_,rfl⟩
 rw [hR0] at hQ
 unfold Jh0 at hR0
 obtain ⟨k,hk⟩:∃ k,Qk4 s f x y sm=k:=⟨_,rfl⟩
 rw [hk] at hR0
 have hkc:kyC k=[.int .u64 s.sd,.int .i64 f,.int .i64 (yw+x),.int .i64 sm]:=by rw [<-hk,<-hyw];rfl
 obtain ⟨pt,hpt⟩:∃ z,k.u 2=z:=⟨_,rfl⟩
 obtain ⟨u0,hu0⟩:∃ z,k.u 0=z:=⟨_,rfl⟩
 obtain ⟨u1,hu1⟩:∃ z,k.u 1=z:=⟨_,rfl⟩
 rw [hpt,hu0,hu1] at hR0
 obtain ⟨r0,hr0⟩:∃ r,Vi2 (Xg1 a b pt) x y u0 u1 pt=r:=⟨_,rfl⟩
 rw [hr0] at hR0
 have hry:=Vv9 r0
 have hdn:((s.dp.toNat:Nat):Int)=s.dp:=Int.toNat_of_nonneg (by omega)
 have U1:=ca4 hps (Ja5 hps) @Ky7 (ca4 @Jf4 @Je7 @Jf3 (ca4 @Ja4 @Jy9 h1 (ca4 h2 h3 h4 (ca3 hyw w1 w2))))
 refine AW.c 1 U1 Tru ?_
 refine AW.q fun K J0=>?_
 refine AW.c 1 U1 Tru ?_
 apply AW.x rfl
 apply AW.z
 apply J0
 refine AW.d [.val,.val,.val,.val,.val,.rd 0,.val,.val,.val,.rd 0,.val,.val,.val,.val,.val,.val,.rd 0,.val,.val,.val,.val,.val,.ext,.wr] fol U1 Tru ?_
 have q_1:=Ka4 k (2)
 rw [hkc,hpt] at q_1
 refine AW.c 1 U1 q_1 ?_
 have q_2:=Ka4 k (0)
 rw [hkc,hu0] at q_2
 have q_3:=Ka4 k (1)
 rw [hkc,hu1] at q_3
 have q_4:=Xn6 (Xg1 a b pt) x y u0 u1 pt
 rw [hr0,hry] at q_4
 refine AW.d [.val,.val,.val,.rd 0,.val,.val,.val,.rd 0,.val,.rd 0,.ext,.val,.val,.rd 0,.ext,.rd 0,.ext,.val,.rd 0,.ext,.fl,.wr] fol U1 (ca4 (Xr9 a b pt) q_2 q_3 q_4) ?_
 refine AW.c 1 U1 (Kw2 65536) ?_
 refine AW.q fun K J0=>?_
 refine AW.c 1 U1 Tru ?_
 apply AW.b
 refine AW.loopK [0,8,9,10,11,12,103] (fun (q:QT)=>q.b<=s.dp.toNat/\Jw1 (Jd3 s f) k (s.dp.toNat - q.b) q.b q.s=R9) (fun (q:QT)=>[(13,.one (.bool q.s.sharp)),(104,.one (.int .i64 ((q.b:Int))))]) (fun (q:QT)=>[(m.length+2,⟨.fix,61,0,0,[.int .i64 (q.s.s.li 0),.int .i64 (q.s.s.li 1),.int .i64 (q.s.s.li 2),.int .i64 (q.s.s.dep),.int .i64 (q.s.s.no 0),.int .i64 (q.s.s.no 1),.int .i64 (q.s.s.no 2),.int .i64 (q.s.s.po 0),.int .i64 (q.s.s.po 1),.int .i64 (q.s.s.po 2),.int .i64 (q.s.s.ba 0),.int .i64 (q.s.s.ba 1),.int .i64 (q.s.s.ba 2),.int .i64 (q.s.s.sh),.int .i64 (q.s.s.pt)]⟩),(m.length+3,⟨.fix,161,0,0,[.int .i64 (q.s.r.o 0),.int .i64 (q.s.r.o 1),.int .i64 (q.s.r.o 2),.int .i64 (q.s.r.d 0),.int .i64 (q.s.r.d 1),.int .i64 (q.s.r.d 2),.int .i64 (q.s.r.part)]⟩),(m.length+4,⟨.fix,42,0,0,[.int .i64 (q.s.w 0),.int .i64 (q.s.w 1),.int .i64 (q.s.w 2)]⟩)]) (fun (q:QT)=>s.dp.toNat - q.b) ⟨0,⟨Ky6 pt,fun _=>65536,true,r0⟩⟩ ⟨Nat.zero_le _,hR0⟩ ?_ ?_ fun (q:QT) hi3=>?_
 · first|rfl|(simp only [KS,simprocAttr,Ky6,Int.natCast_zero]<;>repeat' (first|rfl|apply And.intro))
 · (simp only [Ja2,push_cast,simprocAttr,Ky6])<;>rfl
 obtain ⟨bb,⟨sn,wt,shp,rr⟩⟩:=q
 have hq:=hi3
 dsimp only at hq ⊢
 obtain ⟨hbd,hR9⟩:=hq
 try simp only [Jb1,Ja2,push_cast,simprocAttr,U1]
 refine AW.c 1 U1 Tru ?_
 refine AW.q fun K J1=>?_
 refine AW.cond rfl (fun h105=>?_) (fun h105=>?_)
 ·have hbn:bb<s.dp.toNat:=by have:=of_decide_eq_true h105;omega
  obtain ⟨d,hd9⟩:∃ d:Int,d=3+8*(bb:Int):=⟨_,rfl⟩
  have hdp9:=hG.dp
  have wd8:IntKind.i64.wrap (8*(bb:Int))=8*(bb:Int):=wi (by omega)
  have wd9:IntKind.i64.wrap (3+8*(bb:Int))=d:=by rw [hd9];exact wi (by omega)
  have wd3:IntKind.i64.wrap (d+3)=d+3:=wi (by omega)
  have wd4:IntKind.i64.wrap (d+4)=d+4:=wi (by omega)
  have wd5:IntKind.i64.wrap (d+5)=d+5:=wi (by omega)
  have hdr:0<=d/\d<=1000:=by omega
  have hwi:IntKind.i64.wrap ((bb:Int)+1)=(bb:Int)+1:=wi (by omega)
  apply AW.z
  apply J1
  refine AW.q fun K J1=>?_
  apply AW.b
  have U2:=ca4 U1 wd8 wd9 (ca4 wd3 wd4 wd5 hwi)
  refine AW.c 2 U2 Tru ?_
  refine AW.q fun K J2=>?_
  rcases hF0:Js0 (Jd3 s f) rr 1024 2147483648 with _|⟨t9,i9⟩
  ·have hz8:htC (Jf1 rr (mvS s f) none)=[.int .i64 0,.int .i64 0,.int .i64 0,.int .i64 0,.int .i64 0,.int .i64 0,.int .i64 0,.int .i64 0]:=rfl
   have hR8:R9=sn.add (Je2 wt s.sk):=by rw [<-hR9];exact Jj1 hbn (by rw [<-hd9];exact Kj0 hF0)
   have hv:snC R9=[.int .i64 (Jd9 sn.li (Je2 wt s.sk) 0),.int .i64 (Jd9 sn.li (Je2 wt s.sk) 1),.int .i64 (Jd9 sn.li (Je2 wt s.sk) 2),.int .i64 (sn.dep),.int .i64 (sn.no 0),.int .i64 (sn.no 1),.int .i64 (sn.no 2),.int .i64 (sn.po 0),.int .i64 (sn.po 1),.int .i64 (sn.po 2),.int .i64 (sn.ba 0),.int .i64 (sn.ba 1),.int .i64 (sn.ba 2),.int .i64 (sn.sh),.int .i64 (sn.pt)]:=by rw [hR8];rfl
   rw [hv] at hQ
   have q_5:=fun L=>hFi L rr 1024 2147483648
   rw [hF0] at q_5
   have U3:=ca2 U2 hz8
   refine AW.e [.val,.val,.val,.rd 0,.rd 0,.ext,.val,.val,.val,.val,.fl,.wr,.val,.val] fol U3 q_5 ?_
   apply J2
   refine AW.q fun K J2=>?_
   refine AW.c 1 U3 Tru ?_
   apply AW.y rfl
   refine AW.d [.val,.rd 0,.rd 0,.val,.val,.val,.val,.val,.rd 0,.ext,.ext,.val,.wr] fol U3 (ca2 (Kn6 wt s.sk) (Qm6 sn.li (Je2 wt s.sk))) ?_
   refine AW.c 1 U3 Tru ?_
   exact AW.ret (hQ _ _ _ (RetP.z hwf Tru))
  obtain ⟨jj,hjj⟩:∃ j,j=(s.xp i9).toNat:=⟨_,rfl⟩
  have dP:=Kc8 s jj
  have hi9:i9<s.nx:=Kj4 hF0
  obtain ⟨h,hh⟩:∃ h,Kd9 (Jd3 s f) rr t9 i9=h:=⟨_,rfl⟩
  have hbh:Jf1 rr (mvS s f) (some (t9,i9))=h:=hh
  have hhi:h.i=(i9:Int):=by rw [<-hh];rfl
  have hht:htC h=[.int .i64 h.t,.int .i64 (i9:Int),.int .i64 (h.p 0),.int .i64 (h.p 1),.int .i64 (h.p 2),.int .i64 (h.n 0),.int .i64 (h.n 1),.int .i64 (h.n 2)]:=by unfold htC;rw [hhi];rfl
  obtain ⟨sn1,hsn1⟩:∃ x,Jz0 (Jd3 s f) bb sn h i9=x:=⟨_,rfl⟩
  obtain ⟨sn2,hsn2⟩:∃ x,liS (Jd3 s f) k d ⟨sn,wt,shp,rr⟩ sn1 h i9=x:=⟨_,rfl⟩
  obtain ⟨T,hT⟩:∃ x,Kb3 (Jd3 s f) k d ⟨sn,wt,shp,rr⟩ h i9=x:=⟨_,rfl⟩
  have hT1:Jr0 (s.pk jj) (s.pc jj) (s.pr jj) rr.d h.n (k.u (d+3)) (k.u (d+4))=T:=by rw [<-hT,hjj];rfl
  have hkd:(Jd3 s f).kd i9=s.pk jj:=by rw [hjj];rfl
  have hcl:(Jd3 s f).cl i9=s.pc jj:=by rw [hjj];rfl
  have hp1:sn1.pt=sn.pt:=by rw [<-hsn1];unfold Jz0;split<;>rfl
  have hp2:sn2.pt=sn.pt:=by rw [<-hp1,<-hsn2];unfold liS;split<;>rfl
  have q_6:=fun L=>hFi L rr 1024 2147483648
  rw [hF0,hbh] at q_6
  have U4:=ca4 U2 dP hhi @Jj3
  refine AW.e [.val,.val,.val,.rd 0,.rd 0,.ext,.val,.val,.val,.val,.fl,.wr,.val,.val] fol U4 q_6 ?_
  apply J2
  refine AW.q fun K J2=>?_
  refine AW.c 1 U4 Tru ?_
  apply AW.x rfl
  apply AW.z
  apply J2
  have q_7:=Km2 s R f E a b p i9
  rw [<-hjj] at q_7
  refine AW.c 1 U4 (q_7 _ (hS.app _) hi9) ?_
  refine AW.q fun K J2=>?_
  refine AW.c 1 U4 Tru ?_
  refine AW.condJ rfl [0,8,9,10,11,12,13,14,15,16,19,103,104] [] [(m.length+2,⟨.fix,61,0,0,[.int .i64 (sn1.li 0),.int .i64 (sn1.li 1),.int .i64 (sn1.li 2),.int .i64 (sn1.dep),.int .i64 (sn1.no 0),.int .i64 (sn1.no 1),.int .i64 (sn1.no 2),.int .i64 (sn1.po 0),.int .i64 (sn1.po 1),.int .i64 (sn1.po 2),.int .i64 (sn1.ba 0),.int .i64 (sn1.ba 1),.int .i64 (sn1.ba 2),.int .i64 (sn1.sh),.int .i64 (sn1.pt)]⟩)] (fun h140=>?_) (fun h140=>?_) ?_
  ·have hb0:bb=0:=by have:=eq_of_beq h140;omega
   have X1:sn1=⟨sn.li,h.t,h.n,h.p,(Jd3 s f).cl i9,(i9:Int),sn.pt⟩:=by rw [<-hsn1];exact if_pos hb0
   rw [hcl] at X1
   have p1li0:sn1.li 0=sn.li 0:=by have q:=congrArg (fun z:SN=>z.li 0) X1;exact q
   have p1li1:sn1.li 1=sn.li 1:=by have q:=congrArg (fun z:SN=>z.li 1) X1;exact q
   have p1li2:sn1.li 2=sn.li 2:=by have q:=congrArg (fun z:SN=>z.li 2) X1;exact q
   have p1no0:sn1.no 0=h.n 0:=by have q:=congrArg (fun z:SN=>z.no 0) X1;exact q
   have p1no1:sn1.no 1=h.n 1:=by have q:=congrArg (fun z:SN=>z.no 1) X1;exact q
   have p1no2:sn1.no 2=h.n 2:=by have q:=congrArg (fun z:SN=>z.no 2) X1;exact q
   have p1po0:sn1.po 0=h.p 0:=by have q:=congrArg (fun z:SN=>z.po 0) X1;exact q
   have p1po1:sn1.po 1=h.p 1:=by have q:=congrArg (fun z:SN=>z.po 1) X1;exact q
   have p1po2:sn1.po 2=h.p 2:=by have q:=congrArg (fun z:SN=>z.po 2) X1;exact q
   have p1ba0:sn1.ba 0=s.pc jj 0:=by have q:=congrArg (fun z:SN=>z.ba 0) X1;exact q
   have p1ba1:sn1.ba 1=s.pc jj 1:=by have q:=congrArg (fun z:SN=>z.ba 1) X1;exact q
   have p1ba2:sn1.ba 2=s.pc jj 2:=by have q:=congrArg (fun z:SN=>z.ba 2) X1;exact q
   have p1dep:sn1.dep=h.t:=by have q:=congrArg (fun z:SN=>z.dep) X1;exact q
   have p1sh:sn1.sh=(i9:Int):=by have q:=congrArg (fun z:SN=>z.sh) X1;exact q
   have p1pt:sn1.pt=sn.pt:=by have q:=congrArg (fun z:SN=>z.pt) X1;exact q
   refine AW.e [.val,.rd 0,.val,.rw 0,.val,.rw 0,.val,.rw 0,.val,.rw 0,.val,.wr,.val,.wr,.val,.wr,.val,.wr,.val,.wr] fol U4 Tru ?_
   apply Jc2
   try simp only [Jb1,Ja2,push_cast,simprocAttr,U4,p1li0,p1li1,p1li2,p1no0,p1no1,p1no2,p1po0,p1po1,p1po2,p1ba0,p1ba1,p1ba2,p1dep,p1sh,p1pt]
   exact Weak.same (by simp only [KS,simprocAttr,p1li0,p1li1,p1li2,p1no0,p1no1,p1no2,p1po0,p1po1,p1po2,p1ba0,p1ba1,p1ba2,p1dep,p1sh,p1pt]) (by first|rfl|simp only [KS,simprocAttr,p1li0,p1li1,p1li2,p1no0,p1no1,p1no2,p1po0,p1po1,p1po2,p1ba0,p1ba1,p1ba2,p1dep,p1sh,p1pt])
  ·have hb0:¬bb=0:=fun q=>by rw [q] at h140;cases h140
   have X1:sn1=sn:=by rw [<-hsn1];exact if_neg hb0
   have p1li0:sn1.li 0=sn.li 0:=by have q:=congrArg (fun z:SN=>z.li 0) X1;exact q
   have p1li1:sn1.li 1=sn.li 1:=by have q:=congrArg (fun z:SN=>z.li 1) X1;exact q
   have p1li2:sn1.li 2=sn.li 2:=by have q:=congrArg (fun z:SN=>z.li 2) X1;exact q
   have p1no0:sn1.no 0=sn.no 0:=by have q:=congrArg (fun z:SN=>z.no 0) X1;exact q
   have p1no1:sn1.no 1=sn.no 1:=by have q:=congrArg (fun z:SN=>z.no 1) X1;exact q
   have p1no2:sn1.no 2=sn.no 2:=by have q:=congrArg (fun z:SN=>z.no 2) X1;exact q
   have p1po0:sn1.po 0=sn.po 0:=by have q:=congrArg (fun z:SN=>z.po 0) X1;exact q
   have p1po1:sn1.po 1=sn.po 1:=by have q:=congrArg (fun z:SN=>z.po 1) X1;exact q
   have p1po2:sn1.po 2=sn.po 2:=by have q:=congrArg (fun z:SN=>z.po 2) X1;exact q
   have p1ba0:sn1.ba 0=sn.ba 0:=by have q:=congrArg (fun z:SN=>z.ba 0) X1;exact q
   have p1ba1:sn1.ba 1=sn.ba 1:=by have q:=congrArg (fun z:SN=>z.ba 1) X1;exact q
   have p1ba2:sn1.ba 2=sn.ba 2:=by have q:=congrArg (fun z:SN=>z.ba 2) X1;exact q
   have p1dep:sn1.dep=sn.dep:=by have q:=congrArg (fun z:SN=>z.dep) X1;exact q
   have p1sh:sn1.sh=sn.sh:=by have q:=congrArg (fun z:SN=>z.sh) X1;exact q
   have p1pt:sn1.pt=sn.pt:=by have q:=congrArg (fun z:SN=>z.pt) X1;exact q
   apply AW.z
   apply Jc2
   try simp only [Jb1,Ja2,push_cast,simprocAttr,U4,p1li0,p1li1,p1li2,p1no0,p1no1,p1no2,p1po0,p1po1,p1po2,p1ba0,p1ba1,p1ba2,p1dep,p1sh,p1pt]
   exact Weak.same (by simp only [KS,simprocAttr,p1li0,p1li1,p1li2,p1no0,p1no1,p1no2,p1po0,p1po1,p1po2,p1ba0,p1ba1,p1ba2,p1dep,p1sh,p1pt]) (by first|rfl|simp only [KS,simprocAttr,p1li0,p1li1,p1li2,p1no0,p1no1,p1no2,p1po0,p1po1,p1po2,p1ba0,p1ba1,p1ba2,p1dep,p1sh,p1pt])
  try simp only [Jb1,Ja2,push_cast,simprocAttr,U4]
  apply J2
  refine AW.q fun K J2=>?_
  refine AW.c 1 U4 Tru ?_
  apply AW.b
  refine AW.q fun K J3=>?_
  have hk19:(s.pk jj=3/\shp=true)\/(s.pk jj=3/\shp=false)\/¬s.pk jj=3:=by cases shp<;>simp<;>omega
  rcases hk19 with ⟨h3,hsp⟩|⟨h3,hsp⟩|h3
  ·have h3w:(Jd3 s f).kd i9=3:=hkd.trans h3
   have k3:(s.pk jj ==3)=true:=beq_iff_eq.2 h3
   subst hsp
   have hR8:R9=sn1.add (Je2 wt ((Jd3 s f).cl i9)):=by rw [<-hR9];exact Jj1 hbn (by rw [<-hd9];exact Ky2 hF0 hh hsn1 h3w rfl)
   rw [hcl] at hR8
   have hv:snC R9=[.int .i64 (Jd9 sn1.li (Je2 wt (s.pc jj)) 0),.int .i64 (Jd9 sn1.li (Je2 wt (s.pc jj)) 1),.int .i64 (Jd9 sn1.li (Je2 wt (s.pc jj)) 2),.int .i64 (sn1.dep),.int .i64 (sn1.no 0),.int .i64 (sn1.no 1),.int .i64 (sn1.no 2),.int .i64 (sn1.po 0),.int .i64 (sn1.po 1),.int .i64 (sn1.po 2),.int .i64 (sn1.ba 0),.int .i64 (sn1.ba 1),.int .i64 (sn1.ba 2),.int .i64 (sn1.sh),.int .i64 (sn1.pt)]:=by rw [hR8];rfl
   rw [hv] at hQ
   have U5:=ca2 U4 k3
   refine AW.g U5 Tru ?_
   apply J3
   apply AW.y rfl
   refine AW.q fun K J3=>?_
   refine AW.c 1 U5 Tru ?_
   apply AW.y rfl
   refine AW.e [.val,.rd 0,.rd 0,.val,.rd 0,.ext,.ext,.val,.wr] fol U5 (ca2 (Kn6 wt (s.pc jj)) (Qm6 sn1.li (Je2 wt (s.pc jj)))) ?_
   apply J3
   refine AW.c 1 U5 Tru ?_
   exact AW.ret (hQ _ _ _ (RetP.z hwf Tru))
  ·have h3w:(Jd3 s f).kd i9=3:=hkd.trans h3
   have k3:(s.pk jj ==3)=true:=beq_iff_eq.2 h3
   subst hsp
   have hR8:R9=sn1:=by rw [<-hR9];exact Jj1 hbn (by rw [<-hd9];exact Ky3 hF0 hh hsn1 h3w rfl)
   have hv:snC R9=[.int .i64 (sn1.li 0),.int .i64 (sn1.li 1),.int .i64 (sn1.li 2),.int .i64 (sn1.dep),.int .i64 (sn1.no 0),.int .i64 (sn1.no 1),.int .i64 (sn1.no 2),.int .i64 (sn1.po 0),.int .i64 (sn1.po 1),.int .i64 (sn1.po 2),.int .i64 (sn1.ba 0),.int .i64 (sn1.ba 1),.int .i64 (sn1.ba 2),.int .i64 (sn1.sh),.int .i64 (sn1.pt)]:=by rw [hR8];rfl
   rw [hv] at hQ
   have U6:=ca2 U4 k3
   refine AW.g U6 Tru ?_
   apply J3
   apply AW.y rfl
   refine AW.q fun K J3=>?_
   refine AW.c 1 U6 Tru ?_
   apply AW.x rfl
   apply AW.z
   apply J3
   refine AW.c 1 U6 Tru ?_
   exact AW.ret (hQ _ _ _ (RetP.z hwf Tru))
  have h3w:¬(Jd3 s f).kd i9=3:=fun q=>h3 (hkd.symm.trans q)
  have k3:(s.pk jj ==3)=false:=by simpa using h3
  have U7:=ca2 U4 k3
  refine AW.g U7 Tru ?_
  apply J3
  apply AW.x rfl
  refine AW.c 1 U7 Tru ?_
  refine AW.condJ rfl [0,8,9,10,11,12,14,15,16,19,103,104] [] [(m.length+2,⟨.fix,61,0,0,[.int .i64 (sn2.li 0),.int .i64 (sn2.li 1),.int .i64 (sn2.li 2),.int .i64 (sn2.dep),.int .i64 (sn2.no 0),.int .i64 (sn2.no 1),.int .i64 (sn2.no 2),.int .i64 (sn2.po 0),.int .i64 (sn2.po 1),.int .i64 (sn2.po 2),.int .i64 (sn2.ba 0),.int .i64 (sn2.ba 1),.int .i64 (sn2.ba 2),.int .i64 (sn2.sh),.int .i64 (sn2.pt)]⟩)] (fun h170=>?_) (fun h170=>?_) ?_
  ·have hk0:s.pk jj=0:=eq_of_beq h170
   obtain ⟨lv,hlv⟩:∃ l,Jm8 (Jd3 s f) k d h i9 sn1.pt=l:=⟨_,rfl⟩
   have X2:sn2=sn1.add (Je2 wt lv):=by rw [<-hsn2,<-hlv];exact if_pos (hkd.trans hk0)
   have p2li0:sn2.li 0=Jd9 sn1.li (Je2 wt lv) 0:=by have q:=congrArg (fun z:SN=>z.li 0) X2;exact q
   have p2li1:sn2.li 1=Jd9 sn1.li (Je2 wt lv) 1:=by have q:=congrArg (fun z:SN=>z.li 1) X2;exact q
   have p2li2:sn2.li 2=Jd9 sn1.li (Je2 wt lv) 2:=by have q:=congrArg (fun z:SN=>z.li 2) X2;exact q
   have p2no0:sn2.no 0=sn1.no 0:=by have q:=congrArg (fun z:SN=>z.no 0) X2;exact q
   have p2no1:sn2.no 1=sn1.no 1:=by have q:=congrArg (fun z:SN=>z.no 1) X2;exact q
   have p2no2:sn2.no 2=sn1.no 2:=by have q:=congrArg (fun z:SN=>z.no 2) X2;exact q
   have p2po0:sn2.po 0=sn1.po 0:=by have q:=congrArg (fun z:SN=>z.po 0) X2;exact q
   have p2po1:sn2.po 1=sn1.po 1:=by have q:=congrArg (fun z:SN=>z.po 1) X2;exact q
   have p2po2:sn2.po 2=sn1.po 2:=by have q:=congrArg (fun z:SN=>z.po 2) X2;exact q
   have p2ba0:sn2.ba 0=sn1.ba 0:=by have q:=congrArg (fun z:SN=>z.ba 0) X2;exact q
   have p2ba1:sn2.ba 1=sn1.ba 1:=by have q:=congrArg (fun z:SN=>z.ba 1) X2;exact q
   have p2ba2:sn2.ba 2=sn1.ba 2:=by have q:=congrArg (fun z:SN=>z.ba 2) X2;exact q
   have p2dep:sn2.dep=sn1.dep:=by have q:=congrArg (fun z:SN=>z.dep) X2;exact q
   have p2sh:sn2.sh=sn1.sh:=by have q:=congrArg (fun z:SN=>z.sh) X2;exact q
   have p2pt:sn2.pt=sn1.pt:=by have q:=congrArg (fun z:SN=>z.pt) X2;exact q
   have q_8:=Xs6 s R f E a b p k d h i9 sn1.pt
   rw [hkc,hlv,hht] at q_8
   refine AW.e [.val,.rd 0,.rd 0,.val,.rd 0,.val,.rd 0,.val,.rd 0,.ext,.ext,.ext,.val,.wr] fol U7 (ca3 (q_8 _ (hS.app _) hdr hhi hi9) (Kn6 wt lv) (Qm6 sn1.li (Je2 wt lv))) ?_
   apply Jc2
   try simp only [Jb1,Ja2,push_cast,simprocAttr,U7,p2li0,p2li1,p2li2,p2no0,p2no1,p2no2,p2po0,p2po1,p2po2,p2ba0,p2ba1,p2ba2,p2dep,p2sh,p2pt]
   exact Weak.same (by simp only [KS,simprocAttr,p2li0,p2li1,p2li2,p2no0,p2no1,p2no2,p2po0,p2po1,p2po2,p2ba0,p2ba1,p2ba2,p2dep,p2sh,p2pt]) (by first|rfl|simp only [KS,simprocAttr,p2li0,p2li1,p2li2,p2no0,p2no1,p2no2,p2po0,p2po1,p2po2,p2ba0,p2ba1,p2ba2,p2dep,p2sh,p2pt])
  ·have hk0:¬s.pk jj=0:=fun q=>by rw [q] at h170;cases h170
   have X2:sn2=sn1:=by rw [<-hsn2];exact if_neg (fun q=>hk0 (hkd.symm.trans q))
   have p2li0:sn2.li 0=sn1.li 0:=by have q:=congrArg (fun z:SN=>z.li 0) X2;exact q
   have p2li1:sn2.li 1=sn1.li 1:=by have q:=congrArg (fun z:SN=>z.li 1) X2;exact q
   have p2li2:sn2.li 2=sn1.li 2:=by have q:=congrArg (fun z:SN=>z.li 2) X2;exact q
   have p2no0:sn2.no 0=sn1.no 0:=by have q:=congrArg (fun z:SN=>z.no 0) X2;exact q
   have p2no1:sn2.no 1=sn1.no 1:=by have q:=congrArg (fun z:SN=>z.no 1) X2;exact q
   have p2no2:sn2.no 2=sn1.no 2:=by have q:=congrArg (fun z:SN=>z.no 2) X2;exact q
   have p2po0:sn2.po 0=sn1.po 0:=by have q:=congrArg (fun z:SN=>z.po 0) X2;exact q
   have p2po1:sn2.po 1=sn1.po 1:=by have q:=congrArg (fun z:SN=>z.po 1) X2;exact q
   have p2po2:sn2.po 2=sn1.po 2:=by have q:=congrArg (fun z:SN=>z.po 2) X2;exact q
   have p2ba0:sn2.ba 0=sn1.ba 0:=by have q:=congrArg (fun z:SN=>z.ba 0) X2;exact q
   have p2ba1:sn2.ba 1=sn1.ba 1:=by have q:=congrArg (fun z:SN=>z.ba 1) X2;exact q
   have p2ba2:sn2.ba 2=sn1.ba 2:=by have q:=congrArg (fun z:SN=>z.ba 2) X2;exact q
   have p2dep:sn2.dep=sn1.dep:=by have q:=congrArg (fun z:SN=>z.dep) X2;exact q
   have p2sh:sn2.sh=sn1.sh:=by have q:=congrArg (fun z:SN=>z.sh) X2;exact q
   have p2pt:sn2.pt=sn1.pt:=by have q:=congrArg (fun z:SN=>z.pt) X2;exact q
   apply AW.z
   apply Jc2
   try simp only [Jb1,Ja2,push_cast,simprocAttr,U7,p2li0,p2li1,p2li2,p2no0,p2no1,p2no2,p2po0,p2po1,p2po2,p2ba0,p2ba1,p2ba2,p2dep,p2sh,p2pt]
   exact Weak.same (by simp only [KS,simprocAttr,p2li0,p2li1,p2li2,p2no0,p2no1,p2no2,p2po0,p2po1,p2po2,p2ba0,p2ba1,p2ba2,p2dep,p2sh,p2pt]) (by first|rfl|simp only [KS,simprocAttr,p2li0,p2li1,p2li2,p2no0,p2no1,p2no2,p2po0,p2po1,p2po2,p2ba0,p2ba1,p2ba2,p2dep,p2sh,p2pt])
  try simp only [Jb1,Ja2,push_cast,simprocAttr,U7]
  apply Ja8
  apply J2
  have q_9:=Ka4 k (d+3)
  rw [hkc] at q_9
  have q_10:=Ka4 k (d+4)
  rw [hkc] at q_10
  have q_11:=bnc_c (s.pk jj) (s.pc jj) (s.pr jj) rr.d h.n (k.u (d+3)) (k.u (d+4))
  rw [hT1] at q_11
  unfold tnC c3C at q_11
  refine AW.d [.rd 0,.val,.rd 0,.val,.rd 0,.rd 0,.val,.val,.ext,.rd 0,.val,.val,.ext,.ext,.fl,.wr] fol U7 (ca3 q_9 q_10 q_11) ?_
  refine AW.q fun K J2=>?_
  refine AW.q fun K J3=>?_
  cases hg:T.g
  ·have hR8:R9=sn2:=by rw [<-hR9];exact Jj1 hbn (by rw [<-hd9];exact Ky1 hF0 hh hsn1 hsn2 hT h3w hg)
   have hv:snC R9=[.int .i64 (sn2.li 0),.int .i64 (sn2.li 1),.int .i64 (sn2.li 2),.int .i64 (sn2.dep),.int .i64 (sn2.no 0),.int .i64 (sn2.no 1),.int .i64 (sn2.no 2),.int .i64 (sn2.po 0),.int .i64 (sn2.po 1),.int .i64 (sn2.po 2),.int .i64 (sn2.ba 0),.int .i64 (sn2.ba 1),.int .i64 (sn2.ba 2),.int .i64 (sn2.sh),.int .i64 (sn2.pt)]:=by rw [hR8];rfl
   rw [hv] at hQ
   have U8:=ca2 U7 hg
   refine AW.g U8 Tru ?_
   apply J3
   apply AW.y rfl
   refine AW.c 1 U8 Tru ?_
   exact AW.ret (hQ _ _ _ (RetP.z hwf Tru))
  skip
  have U9:=ca2 U7 hg
  refine AW.g U9 Tru ?_
  apply J3
  apply AW.x rfl
  apply AW.z
  apply J2
  refine AW.d [.rd 0,.val,.rd 0,.ext,.val,.rw 0,.wr,.val] fol U9 (Kn6 wt T.l) ?_
  refine AW.q fun K J2=>?_
  refine AW.q fun K J3=>?_
  have hk29:bb=0\/(¬bb=0/\Kv5 (Je2 wt T.l)<=Jb9 (k.u (d+5)))\/(¬bb=0/\¬Kv5 (Je2 wt T.l)<=Jb9 (k.u (d+5))):=by
    by_cases q1:bb=0
    · exact .inl q1
    by_cases q2:Kv5 (Je2 wt T.l)<=Jb9 (k.u (d+5))
    · exact .inr (.inl ⟨q1,q2⟩)
    exact .inr (.inr ⟨q1,q2⟩)
  rcases hk29 with hb0|⟨hb0,hl9⟩|⟨hb0,hl9⟩
  ·have e9:¬(0:Int)<(bb:Int):=by omega
   have hNx:bb+1<=s.dp.toNat/\Jw1 (Jd3 s f) k (s.dp.toNat - (bb+1)) (bb+1) ⟨sn2,Je2 wt T.l,T.s,⟨h.p,T.d,sn.pt⟩⟩=R9:=⟨hbn,by rw [<-hR9];exact (Kb6 hbn (by rw [<-hd9];exact Qh8 hF0 hh hsn1 hsn2 hT h3w hg hb0)).symm⟩
   have hmu:s.dp.toNat - (bb+1)<s.dp.toNat - bb:=by omega
   have U10:=ca2 U9 e9
   refine AW.g U10 Tru ?_
   apply J3
   apply AW.x rfl
   apply AW.z
   apply J2
   refine AW.g U10 Tru ?_
   apply Ja8
   apply J1
   refine AW.g U10 Tru ?_
   apply Jc2
   refine ⟨⟨bb+1,⟨sn2,Je2 wt T.l,T.s,⟨h.p,T.d,sn.pt⟩⟩⟩,hNx,hmu,?_⟩
   try simp only [Jb1,Ja2,push_cast,simprocAttr,U10,hwi,hp2,Int.natCast_add,Int.natCast_one]
   exact Weak.to (extra:=_) (by simp only [KS,simprocAttr,hwi,hp2,Int.natCast_add,Int.natCast_one]) (by first|rfl|(simp only [List.append_assoc,List.cons_append,List.nil_append];rfl)) (by first|rfl|(simp [AV.below,CV.below];done)|(simp [AV.below,CV.below];omega)) (by exact MWf.app (hwf.grow (by simp)) (Ja0 rfl (Ja0 rfl (Ja0 rfl (Ja0 rfl (Ja0 rfl Jb7))))))
  ·have e9:(0:Int)<(bb:Int):=by omega
   have hR8:R9=sn2:=by rw [<-hR9];exact Jj1 hbn (by rw [<-hd9];exact Ky4 hF0 hh hsn1 hsn2 hT h3w hg hb0 hl9)
   have hv:snC R9=[.int .i64 (sn2.li 0),.int .i64 (sn2.li 1),.int .i64 (sn2.li 2),.int .i64 (sn2.dep),.int .i64 (sn2.no 0),.int .i64 (sn2.no 1),.int .i64 (sn2.no 2),.int .i64 (sn2.po 0),.int .i64 (sn2.po 1),.int .i64 (sn2.po 2),.int .i64 (sn2.ba 0),.int .i64 (sn2.ba 1),.int .i64 (sn2.ba 2),.int .i64 (sn2.sh),.int .i64 (sn2.pt)]:=by rw [hR8];rfl
   rw [hv] at hQ
   have U11:=ca2 U9 e9
   refine AW.g U11 Tru ?_
   apply J3
   apply AW.y rfl
   have q_12:=Ka4 k (d+5)
   rw [hkc] at q_12
   refine AW.d [.rd 0,.rd 0,.val,.val,.ext,.ext,.val,.val,.val,.wr,.val] fol U11 (ca2 q_12 (Xg7 (Je2 wt T.l) (k.u (d+5)) _ hl9)) ?_
   refine AW.c 1 U11 Tru ?_
   apply AW.y rfl
   refine AW.c 1 U11 Tru ?_
   exact AW.ret (hQ _ _ _ (RetP.z hwf Tru))
  have e9:(0:Int)<(bb:Int):=by omega
  have hNx:bb+1<=s.dp.toNat/\Jw1 (Jd3 s f) k (s.dp.toNat - (bb+1)) (bb+1) ⟨sn2,Jn8 (Je2 wt T.l) (k.u (d+5)),T.s,⟨h.p,T.d,sn.pt⟩⟩=R9:=⟨hbn,by rw [<-hR9];exact (Kb6 hbn (by rw [<-hd9];exact Qx0 hF0 hh hsn1 hsn2 hT h3w hg hb0 hl9)).symm⟩
  have hmu:s.dp.toNat - (bb+1)<s.dp.toNat - bb:=by omega
  have U12:=ca2 U9 e9
  refine AW.g U12 Tru ?_
  apply J3
  apply AW.y rfl
  have q_13:=Ka4 k (d+5)
  rw [hkc] at q_13
  refine AW.d [.rd 0,.rd 0,.val,.val,.ext,.ext,.val,.val,.val,.wr,.val] fol U12 (ca2 q_13 (Xg8 (Je2 wt T.l) (k.u (d+5)) _ hl9)) ?_
  refine AW.c 1 U12 Tru ?_
  apply AW.x rfl
  apply AW.z
  apply J2
  refine AW.g U12 Tru ?_
  apply Ja8
  apply J1
  refine AW.g U12 Tru ?_
  apply Jc2
  refine ⟨⟨bb+1,⟨sn2,Jn8 (Je2 wt T.l) (k.u (d+5)),T.s,⟨h.p,T.d,sn.pt⟩⟩⟩,hNx,hmu,?_⟩
  try simp only [Jb1,Ja2,push_cast,simprocAttr,U12,hwi,hp2,Int.natCast_add,Int.natCast_one]
  exact Weak.to (extra:=_) (by simp only [KS,simprocAttr,hwi,hp2,Int.natCast_add,Int.natCast_one]) (by first|rfl|(simp only [List.append_assoc,List.cons_append,List.nil_append];rfl)) (by first|rfl|(simp [AV.below,CV.below];done)|(simp [AV.below,CV.below];omega)) (by exact MWf.app (hwf.grow (by simp)) (Ja0 rfl (Ja0 rfl (Ja0 rfl (Ja0 rfl (Ja0 rfl Jb7))))))
 have hbn:¬bb<s.dp.toNat:=by have:=of_decide_eq_false h105;omega
 have hbe:bb=s.dp.toNat:=by omega
 have hR8:R9=sn:=by rw [<-hR9];exact Kx9 (by omega)
 have hv:snC R9=[.int .i64 (sn.li 0),.int .i64 (sn.li 1),.int .i64 (sn.li 2),.int .i64 (sn.dep),.int .i64 (sn.no 0),.int .i64 (sn.no 1),.int .i64 (sn.no 2),.int .i64 (sn.po 0),.int .i64 (sn.po 1),.int .i64 (sn.po 2),.int .i64 (sn.ba 0),.int .i64 (sn.ba 1),.int .i64 (sn.ba 2),.int .i64 (sn.sh),.int .i64 (sn.pt)]:=by rw [hR8];rfl
 rw [hv] at hQ
 apply AW.v
 apply Jb0
 apply Jb0
 apply Ja6
 apply J0
 refine AW.c 1 U1 Tru ?_
 exact AW.ret (hQ _ _ _ (RetP.z hwf Tru))
theorem Qi8 (s:SC)(R:RWs)(f x y sm:Int)(m:Ja1)(hR:ScR 138 143 285 146 150 m s R)(hG:GoS s)(hT:∀ i,i<s.nt->TrS s i)(hJ:∀ i,i<s.nj->JoR s i)(hX:∀ i,i<s.nx->-1<=s.xj i/\s.xj i<(s.nj:Int))(hE:s.ey<(s.nt:Int))(hL:s.lk<(s.nt:Int))(hf:0<=f/\f<=1000000)(hx0:0<=x)(hx1:x<s.w)(hy0:0<=y)(hy1:y<s.h):Ctr Tryz.prog 14 [.agg (scC s R),.one (.int .i64 f),.one (.int .i64 x),.one (.int .i64 y),.one (.int .i64 sm)] m (.agg (snC (Jh0 s f (Jj7 s (f*65536)) (Jj7 s (f*65536+s.sh)) x y sm))) m:=by
 refine Ctr.en Tryz.func14 [.cell 10 56] 203 fun hwf Q hQ=>?_
 obtain ⟨kp,ep,hp⟩:=hR.hp
 have lp:=Jb2 hp
 obtain ⟨kx,ex,hx⟩:=hR.hx
 have lx:=Jb2 hx
 have np:=hR.np
 have nx:=hR.nx
 have pl:(Jb6 s.np (pC s)).length=s.np*5:=Ja9 (w:=5) (F:=pC s) (fun _=>rfl) _
 have xl:(Jb6 s.nx (xC s)).length=s.nx*13:=Ja9 (w:=13) (F:=xC s) (fun _=>rfl) _
 have sc:(Jb6 s.nx (mvF s f)).length=s.nx*24:=Ja9 (w:=24) (F:=mvF s f) (fun _=>rfl) _
 have hgw:=hG.w
 have hgh:=hG.h
 have hgd:=hG.dp
 have hgx:=hG.nx
 have hm1:0<=y*s.w:=Int.mul_nonneg (by omega) (by omega)
 have hm2:y*s.w<=64*64:=Int.mul_le_mul (by omega) (by omega) (by omega) (by omega)
 obtain ⟨yw,hyw⟩:∃ z,y*s.w=z:=⟨_,rfl⟩
 rw [hyw] at hm1 hm2
 have w1:IntKind.i64.wrap yw=yw:=wi (by omega)
 have w2:IntKind.i64.wrap (yw+x)=yw+x:=wi (by omega)
 have w3:IntKind.i64.wrap (f*65536)=f*65536:=wi (by omega)
 have w4:IntKind.i64.wrap (f*65536+s.sh)=f*65536+s.sh:=wi (by have:=hG.sh;omega)
 have hsh:=hG.sh
 obtain ⟨A,hA⟩:∃ A,Jj7 s (f*65536)=A:=⟨_,rfl⟩
 obtain ⟨B,hB⟩:∃ B,Jj7 s (f*65536+s.sh)=B:=⟨_,rfl⟩
 rw [hA,hB] at hQ
 obtain ⟨R9,hR0⟩:∃ R,Jh0 s f A B x y sm=R:=⟨_,rfl⟩
 rw [hR0] at hQ
 unfold Jh0 at hR0
 obtain ⟨k,hk⟩:∃ k,Qk4 s f x y sm=k:=⟨_,rfl⟩
 rw [hk] at hR0
 have hkc:kyC k=[.int .u64 s.sd,.int .i64 f,.int .i64 (yw+x),.int .i64 sm]:=by rw [<-hk,<-hyw];rfl
 obtain ⟨pt,hpt⟩:∃ z,k.u 2=z:=⟨_,rfl⟩
 obtain ⟨u0,hu0⟩:∃ z,k.u 0=z:=⟨_,rfl⟩
 obtain ⟨u1,hu1⟩:∃ z,k.u 1=z:=⟨_,rfl⟩
 rw [hpt,hu0,hu1] at hR0
 obtain ⟨VV,hVV⟩:∃ v,Xg1 A B pt=v:=⟨_,rfl⟩
 rw [hVV] at hR0
 obtain ⟨r0,hr0⟩:∃ r,Vi2 VV x y u0 u1 pt=r:=⟨_,rfl⟩
 rw [hr0] at hR0
 have hry:=Vv9 r0
 have hdn:((s.dp.toNat:Nat):Int)=s.dp:=Int.toNat_of_nonneg (by omega)
 have q_1:=Jv3 k (2)
 rw [hkc,hpt] at q_1
 have U1:=ca4 hp (Ja5 hp) hx (ca4 (Ja5 hx) pl xl (ca4 sc @Jf4 @Je7 (ca4 @Jf3 @Ja4 @Jy9 (ca4 hyw w1 w2 (ca2 w3 w4)))))
 refine AW.c 5 U1 (ca2 (Qj1 s R f _ (hR.app _) hT hJ hX hf hsh (by omega)) q_1) ?_
 have q_2:=fun M hR=>Kj6 s R (f*65536) M hR hT hE hL
 rw [hA] at q_2
 have q_3:=fun M hR=>Kj6 s R (f*65536+s.sh) M hR hT hE hL
 rw [hB] at q_3
 have q_4:=Xb7 A B pt
 rw [hVV] at q_4
 refine AW.d [.rd 0,.val,.ext,.rd 0,.val,.val,.val,.rd 0,.val,.ext,.val,.ext,.fl,.wr] fol U1 (ca3 (q_2 _ (hR.app _)) (q_3 _ (hR.app _)) q_4) ?_
 have q_5:=Jv3 k (0)
 rw [hkc,hu0] at q_5
 have q_6:=Jv3 k (1)
 rw [hkc,hu1] at q_6
 have q_7:=Vz7 VV x y u0 u1 pt
 rw [hr0,hry] at q_7
 refine AW.d [.rd 0,.val,.val,.rd 0,.ext,.rd 0,.ext,.val,.ext,.fl,.wr] fol U1 (ca3 q_5 q_6 q_7) ?_
 refine AW.c 3 U1 Tru ?_
 refine AW.q fun K J0=>?_
 refine AW.c 1 U1 Tru ?_
 apply AW.b
 refine AW.loopK [5,10,11,12,13,16,17,18] (fun (q:QT)=>q.b<=s.dp.toNat/\Jw1 (Jd3 s f) k (s.dp.toNat - q.b) q.b q.s=R9/\q.s.s.pt=pt) (fun (q:QT)=>[(19,.one (.bool q.s.sharp)),(20,.one (.int .i64 ((q.b:Int))))]) (fun (q:QT)=>[(m.length+5,⟨.fix,180,0,0,[.int .i64 (q.s.r.o 0),.int .i64 (q.s.r.o 1),.int .i64 (q.s.r.o 2),.int .i64 (q.s.r.d 0),.int .i64 (q.s.r.d 1),.int .i64 (q.s.r.d 2),.int .i64 (q.s.r.part)]⟩),(m.length+6,⟨.fix,56,0,0,[.int .i64 (q.s.s.li 0),.int .i64 (q.s.s.li 1),.int .i64 (q.s.s.li 2),.int .i64 (q.s.s.dep),.int .i64 (q.s.s.no 0),.int .i64 (q.s.s.no 1),.int .i64 (q.s.s.no 2),.int .i64 (q.s.s.po 0),.int .i64 (q.s.s.po 1),.int .i64 (q.s.s.po 2),.int .i64 (q.s.s.ba 0),.int .i64 (q.s.s.ba 1),.int .i64 (q.s.s.ba 2),.int .i64 (q.s.s.sh),.int .i64 (q.s.s.pt)]⟩),(m.length+7,⟨.fix,24,0,0,[.int .i64 (q.s.w 0),.int .i64 (q.s.w 1),.int .i64 (q.s.w 2)]⟩)]) (fun (q:QT)=>s.dp.toNat - q.b) ⟨0,⟨Ky6 pt,fun _=>65536,true,r0⟩⟩ ⟨Nat.zero_le _,hR0,rfl⟩ ?_ ?_ fun (q:QT) hi2=>?_
 · first|rfl|(simp only [KS,simprocAttr,Ky6,Int.natCast_zero]<;>repeat' (first|rfl|apply And.intro))
 · (simp only [Ja2,push_cast,simprocAttr,Ky6])<;>rfl
 obtain ⟨bb,⟨sn,wt,shp,rr⟩⟩:=q
 have hq:=hi2
 dsimp only at hq ⊢
 obtain ⟨hbd,hR9,hpt9⟩:=hq
 try simp only [Jb1,Ja2,push_cast,simprocAttr,U1]
 refine AW.q fun K J1=>?_
 refine AW.c 1 U1 Tru ?_
 refine AW.cond rfl (fun h76=>?_) (fun h76=>?_)
 ·have hbn:bb<s.dp.toNat:=by have:=of_decide_eq_true h76;omega
  obtain ⟨d,hd9⟩:∃ d:Int,d=3+8*(bb:Int):=⟨_,rfl⟩
  have hdp9:=hG.dp
  have wd8:IntKind.i64.wrap (8*(bb:Int))=8*(bb:Int):=wi (by omega)
  have wd9:IntKind.i64.wrap (3+8*(bb:Int))=d:=by rw [hd9];exact wi (by omega)
  have wd3:IntKind.i64.wrap (d+3)=d+3:=wi (by omega)
  have wd4:IntKind.i64.wrap (d+4)=d+4:=wi (by omega)
  have wd5:IntKind.i64.wrap (d+5)=d+5:=wi (by omega)
  have hdr:0<=d/\d<=1000:=by omega
  have hwi:IntKind.i64.wrap ((bb:Int)+1)=(bb:Int)+1:=wi (by omega)
  apply AW.z
  apply J1
  refine AW.q fun K J1=>?_
  apply AW.b
  have U2:=ca4 U1 wd8 wd9 (ca4 wd3 wd4 wd5 hwi)
  refine AW.c 1 U2 Tru ?_
  refine AW.q fun K J2=>?_
  rcases hF0:Js0 (Jd3 s f) rr 1024 2147483648 with _|⟨t9,i9⟩
  ·have hz8:htC (Jf1 rr (mvS s f) none)=[.int .i64 0,.int .i64 0,.int .i64 0,.int .i64 0,.int .i64 0,.int .i64 0,.int .i64 0,.int .i64 0]:=rfl
   have hR8:R9=sn.add (Je2 wt s.sk):=by rw [<-hR9];exact Jj1 hbn (by rw [<-hd9];exact Kj0 hF0)
   have hv:snC R9=[.int .i64 (Jd9 sn.li (Je2 wt s.sk) 0),.int .i64 (Jd9 sn.li (Je2 wt s.sk) 1),.int .i64 (Jd9 sn.li (Je2 wt s.sk) 2),.int .i64 (sn.dep),.int .i64 (sn.no 0),.int .i64 (sn.no 1),.int .i64 (sn.no 2),.int .i64 (sn.po 0),.int .i64 (sn.po 1),.int .i64 (sn.po 2),.int .i64 (sn.ba 0),.int .i64 (sn.ba 1),.int .i64 (sn.ba 2),.int .i64 (sn.sh),.int .i64 (sn.pt)]:=by rw [hR8];rfl
   rw [hv] at hQ
   refine AW.rg ?_
   simp only [push_cast,simprocAttr,U2,hz8]
   refine CThen.by ((by have h9:=fun M hb=>Kk3 rr (mvS s f) (m.length+2) 0 s.nx 1024 2147483648 M hb (by omega);rw [show Jh1 (Hq rr (mvS s f) 1024 2147483648) s.nx=_ from hF0] at h9;exact h9 _ ⟨.grow,24,by rw [Jg1];rfl⟩)) ?_
   simp only [push_cast,simprocAttr,U2,hz8]
   apply J2
   refine AW.q fun K J2=>?_
   have U3:=ca2 U2 hz8
   refine AW.c 1 U3 Tru ?_
   apply AW.y rfl
   refine AW.d [.val,.rd 0,.rd 0,.val,.val,.rd 0,.ext,.ext,.val,.wr] fol U3 (ca2 (Ka0 wt s.sk) (Ku5 sn.li (Je2 wt s.sk))) ?_
   refine AW.c 1 U3 Tru ?_
   exact AW.ret (hQ _ _ _ (RetP.z hwf Tru))
  obtain ⟨jj,hjj⟩:∃ j,j=(s.xp i9).toNat:=⟨_,rfl⟩
  have dP:=Kc8 s jj
  have hi9:i9<s.nx:=Kj4 hF0
  obtain ⟨h,hh⟩:∃ h,Kd9 (Jd3 s f) rr t9 i9=h:=⟨_,rfl⟩
  have hbh:Jf1 rr (mvS s f) (some (t9,i9))=h:=hh
  have hhi:h.i=(i9:Int):=by rw [<-hh];rfl
  have hht:htC h=[.int .i64 h.t,.int .i64 (i9:Int),.int .i64 (h.p 0),.int .i64 (h.p 1),.int .i64 (h.p 2),.int .i64 (h.n 0),.int .i64 (h.n 1),.int .i64 (h.n 2)]:=by unfold htC;rw [hhi];rfl
  obtain ⟨sn1,hsn1⟩:∃ x,Jz0 (Jd3 s f) bb sn h i9=x:=⟨_,rfl⟩
  obtain ⟨sn2,hsn2⟩:∃ x,liS (Jd3 s f) k d ⟨sn,wt,shp,rr⟩ sn1 h i9=x:=⟨_,rfl⟩
  obtain ⟨T,hT⟩:∃ x,Kb3 (Jd3 s f) k d ⟨sn,wt,shp,rr⟩ h i9=x:=⟨_,rfl⟩
  have hT1:Jr0 (s.pk jj) (s.pc jj) (s.pr jj) rr.d h.n (k.u (d+3)) (k.u (d+4))=T:=by rw [<-hT,hjj];rfl
  have hkd:(Jd3 s f).kd i9=s.pk jj:=by rw [hjj];rfl
  have hcl:(Jd3 s f).cl i9=s.pc jj:=by rw [hjj];rfl
  have hp1:sn1.pt=sn.pt:=by rw [<-hsn1];unfold Jz0;split<;>rfl
  have hp2:sn2.pt=sn.pt:=by rw [<-hp1,<-hsn2];unfold liS;split<;>rfl
  have hiA:=hi9
  have hxjA:s.xp i9=(jj:Int):=by have:=hG.xp i9 hiA;omega
  have hjnA:jj<s.np:=by have:=hG.xp i9 hiA;omega
  have d1A:(0:Int)<=(jj:Int):=by omega
  have d2A:(jj:Int)<(s.np:Int):=by omega
  have d3A:jj*5+5<=s.np*5:=by omega
  have d4A:=Jc0 (w:=5) (F:=pC s) (fun _=>rfl) hjnA
  have d5A:=Kc8 s jj
  have d6A:List.take 3 (List.drop (jj*5+1) (Jb6 s.np (pC s)))=[.int .i64 (s.pc jj 0),.int .i64 (s.pc jj 1),.int .i64 (s.pc jj 2)]:=by
    have e:(Jb6 s.np (pC s)).drop (jj*5+1)=((Jb6 s.np (pC s)).drop (jj*5)).drop 1:=by rw [List.drop_drop]
    have q:=congrArg (fun l=>List.take 3 (List.drop 1 l)) (d4A.trans d5A)
    rw [List.drop_take,List.take_take] at q
    rw [e];exact q
  have d7A:jj*5+1+3<=s.np*5:=by omega
  have x1A:(0:Int)<=(i9:Int):=by omega
  have x2A:(i9:Int)<(s.nx:Int):=by omega
  have x3A:i9*13+13<=s.nx*13:=by omega
  have x4A:(Jb6 s.nx (xC s))[i9*13+1]?=some (.int .i64 (s.xp i9)):=Jh3 (w:=13) (F:=xC s) (fun _=>rfl) hiA (a:=1) (by omega)
  refine AW.rg ?_
  have U4:=ca4 U2 dP hhi (ca4 hxjA d1A d2A (ca4 d3A d4A d5A (ca4 d6A d7A x1A (ca4 x2A x3A x4A (ca2 hjnA hiA)))))
  simp only [push_cast,simprocAttr,htC,U4]
  refine CThen.by ((by have h9:=fun M hb=>Kk3 rr (mvS s f) (m.length+2) 0 s.nx 1024 2147483648 M hb (by omega);rw [show Jh1 (Hq rr (mvS s f) 1024 2147483648) s.nx=_ from hF0,hbh] at h9;exact h9 _ ⟨.grow,24,by rw [Jg1];rfl⟩)) ?_
  simp only [push_cast,simprocAttr,htC,U4]
  apply J2
  refine AW.q fun K J2=>?_
  have U5:=ca2 @Jj3 U4
  refine AW.c 1 U5 Tru ?_
  apply AW.x rfl
  apply AW.z
  apply J2
  refine AW.d [.val,.rd 0,.val,.rd 0,.val,.rd 0,.val,.val,.rd 0,.val,.rd 0,.ext,.wr] fol U5 Tru ?_
  refine AW.q fun K J2=>?_
  refine AW.c 1 U5 Tru ?_
  refine AW.condJ rfl [5,10,11,12,13,16,17,18,19,20,21,22,24] [] [(m.length+6,⟨.fix,56,0,0,[.int .i64 (sn1.li 0),.int .i64 (sn1.li 1),.int .i64 (sn1.li 2),.int .i64 (sn1.dep),.int .i64 (sn1.no 0),.int .i64 (sn1.no 1),.int .i64 (sn1.no 2),.int .i64 (sn1.po 0),.int .i64 (sn1.po 1),.int .i64 (sn1.po 2),.int .i64 (sn1.ba 0),.int .i64 (sn1.ba 1),.int .i64 (sn1.ba 2),.int .i64 (sn1.sh),.int .i64 (sn1.pt)]⟩)] (fun h112=>?_) (fun h112=>?_) ?_
  ·have hb0:bb=0:=by have:=eq_of_beq h112;omega
   have X1:sn1=⟨sn.li,h.t,h.n,h.p,(Jd3 s f).cl i9,(i9:Int),sn.pt⟩:=by rw [<-hsn1];exact if_pos hb0
   rw [hcl] at X1
   have p1li0:sn1.li 0=sn.li 0:=by have q:=congrArg (fun z:SN=>z.li 0) X1;exact q
   have p1li1:sn1.li 1=sn.li 1:=by have q:=congrArg (fun z:SN=>z.li 1) X1;exact q
   have p1li2:sn1.li 2=sn.li 2:=by have q:=congrArg (fun z:SN=>z.li 2) X1;exact q
   have p1no0:sn1.no 0=h.n 0:=by have q:=congrArg (fun z:SN=>z.no 0) X1;exact q
   have p1no1:sn1.no 1=h.n 1:=by have q:=congrArg (fun z:SN=>z.no 1) X1;exact q
   have p1no2:sn1.no 2=h.n 2:=by have q:=congrArg (fun z:SN=>z.no 2) X1;exact q
   have p1po0:sn1.po 0=h.p 0:=by have q:=congrArg (fun z:SN=>z.po 0) X1;exact q
   have p1po1:sn1.po 1=h.p 1:=by have q:=congrArg (fun z:SN=>z.po 1) X1;exact q
   have p1po2:sn1.po 2=h.p 2:=by have q:=congrArg (fun z:SN=>z.po 2) X1;exact q
   have p1ba0:sn1.ba 0=s.pc jj 0:=by have q:=congrArg (fun z:SN=>z.ba 0) X1;exact q
   have p1ba1:sn1.ba 1=s.pc jj 1:=by have q:=congrArg (fun z:SN=>z.ba 1) X1;exact q
   have p1ba2:sn1.ba 2=s.pc jj 2:=by have q:=congrArg (fun z:SN=>z.ba 2) X1;exact q
   have p1dep:sn1.dep=h.t:=by have q:=congrArg (fun z:SN=>z.dep) X1;exact q
   have p1sh:sn1.sh=(i9:Int):=by have q:=congrArg (fun z:SN=>z.sh) X1;exact q
   have p1pt:sn1.pt=sn.pt:=by have q:=congrArg (fun z:SN=>z.pt) X1;exact q
   refine AW.c 4 U5 Tru ?_
   refine AW.g U5 Tru ?_
   apply Jc2
   try simp only [Jb1,Ja2,push_cast,simprocAttr,U5,p1li0,p1li1,p1li2,p1no0,p1no1,p1no2,p1po0,p1po1,p1po2,p1ba0,p1ba1,p1ba2,p1dep,p1sh,p1pt]
   exact Weak.same (by simp only [KS,simprocAttr,p1li0,p1li1,p1li2,p1no0,p1no1,p1no2,p1po0,p1po1,p1po2,p1ba0,p1ba1,p1ba2,p1dep,p1sh,p1pt]) (by first|rfl|simp only [KS,simprocAttr,p1li0,p1li1,p1li2,p1no0,p1no1,p1no2,p1po0,p1po1,p1po2,p1ba0,p1ba1,p1ba2,p1dep,p1sh,p1pt])
  ·have hb0:¬bb=0:=fun q=>by rw [q] at h112;cases h112
   have X1:sn1=sn:=by rw [<-hsn1];exact if_neg hb0
   have p1li0:sn1.li 0=sn.li 0:=by have q:=congrArg (fun z:SN=>z.li 0) X1;exact q
   have p1li1:sn1.li 1=sn.li 1:=by have q:=congrArg (fun z:SN=>z.li 1) X1;exact q
   have p1li2:sn1.li 2=sn.li 2:=by have q:=congrArg (fun z:SN=>z.li 2) X1;exact q
   have p1no0:sn1.no 0=sn.no 0:=by have q:=congrArg (fun z:SN=>z.no 0) X1;exact q
   have p1no1:sn1.no 1=sn.no 1:=by have q:=congrArg (fun z:SN=>z.no 1) X1;exact q
   have p1no2:sn1.no 2=sn.no 2:=by have q:=congrArg (fun z:SN=>z.no 2) X1;exact q
   have p1po0:sn1.po 0=sn.po 0:=by have q:=congrArg (fun z:SN=>z.po 0) X1;exact q
   have p1po1:sn1.po 1=sn.po 1:=by have q:=congrArg (fun z:SN=>z.po 1) X1;exact q
   have p1po2:sn1.po 2=sn.po 2:=by have q:=congrArg (fun z:SN=>z.po 2) X1;exact q
   have p1ba0:sn1.ba 0=sn.ba 0:=by have q:=congrArg (fun z:SN=>z.ba 0) X1;exact q
   have p1ba1:sn1.ba 1=sn.ba 1:=by have q:=congrArg (fun z:SN=>z.ba 1) X1;exact q
   have p1ba2:sn1.ba 2=sn.ba 2:=by have q:=congrArg (fun z:SN=>z.ba 2) X1;exact q
   have p1dep:sn1.dep=sn.dep:=by have q:=congrArg (fun z:SN=>z.dep) X1;exact q
   have p1sh:sn1.sh=sn.sh:=by have q:=congrArg (fun z:SN=>z.sh) X1;exact q
   have p1pt:sn1.pt=sn.pt:=by have q:=congrArg (fun z:SN=>z.pt) X1;exact q
   apply AW.z
   apply Jc2
   try simp only [Jb1,Ja2,push_cast,simprocAttr,U5,p1li0,p1li1,p1li2,p1no0,p1no1,p1no2,p1po0,p1po1,p1po2,p1ba0,p1ba1,p1ba2,p1dep,p1sh,p1pt]
   exact Weak.same (by simp only [KS,simprocAttr,p1li0,p1li1,p1li2,p1no0,p1no1,p1no2,p1po0,p1po1,p1po2,p1ba0,p1ba1,p1ba2,p1dep,p1sh,p1pt]) (by first|rfl|simp only [KS,simprocAttr,p1li0,p1li1,p1li2,p1no0,p1no1,p1no2,p1po0,p1po1,p1po2,p1ba0,p1ba1,p1ba2,p1dep,p1sh,p1pt])
  try simp only [Jb1,Ja2,push_cast,simprocAttr,U5]
  apply J2
  refine AW.q fun K J2=>?_
  refine AW.q fun K J3=>?_
  have hk19:(s.pk jj=3/\shp=true)\/(s.pk jj=3/\shp=false)\/¬s.pk jj=3:=by cases shp<;>simp<;>omega
  rcases hk19 with ⟨h3,hsp⟩|⟨h3,hsp⟩|h3
  ·have h3w:(Jd3 s f).kd i9=3:=hkd.trans h3
   have k3:(s.pk jj ==3)=true:=beq_iff_eq.2 h3
   subst hsp
   have hR8:R9=sn1.add (Je2 wt ((Jd3 s f).cl i9)):=by rw [<-hR9];exact Jj1 hbn (by rw [<-hd9];exact Ky2 hF0 hh hsn1 h3w rfl)
   rw [hcl] at hR8
   have hv:snC R9=[.int .i64 (Jd9 sn1.li (Je2 wt (s.pc jj)) 0),.int .i64 (Jd9 sn1.li (Je2 wt (s.pc jj)) 1),.int .i64 (Jd9 sn1.li (Je2 wt (s.pc jj)) 2),.int .i64 (sn1.dep),.int .i64 (sn1.no 0),.int .i64 (sn1.no 1),.int .i64 (sn1.no 2),.int .i64 (sn1.po 0),.int .i64 (sn1.po 1),.int .i64 (sn1.po 2),.int .i64 (sn1.ba 0),.int .i64 (sn1.ba 1),.int .i64 (sn1.ba 2),.int .i64 (sn1.sh),.int .i64 (sn1.pt)]:=by rw [hR8];rfl
   rw [hv] at hQ
   have U6:=ca2 U5 k3
   refine AW.g U6 Tru ?_
   apply J3
   apply AW.y rfl
   refine AW.q fun K J3=>?_
   refine AW.c 1 U6 Tru ?_
   apply AW.y rfl
   refine AW.e [.val,.rd 0,.rd 0,.val,.rd 0,.ext,.ext,.val,.wr] fol U6 (ca2 (Ka0 wt (s.pc jj)) (Ku5 sn1.li (Je2 wt (s.pc jj)))) ?_
   apply J3
   refine AW.c 1 U6 Tru ?_
   exact AW.ret (hQ _ _ _ (RetP.z hwf Tru))
  ·have h3w:(Jd3 s f).kd i9=3:=hkd.trans h3
   have k3:(s.pk jj ==3)=true:=beq_iff_eq.2 h3
   subst hsp
   have hR8:R9=sn1:=by rw [<-hR9];exact Jj1 hbn (by rw [<-hd9];exact Ky3 hF0 hh hsn1 h3w rfl)
   have hv:snC R9=[.int .i64 (sn1.li 0),.int .i64 (sn1.li 1),.int .i64 (sn1.li 2),.int .i64 (sn1.dep),.int .i64 (sn1.no 0),.int .i64 (sn1.no 1),.int .i64 (sn1.no 2),.int .i64 (sn1.po 0),.int .i64 (sn1.po 1),.int .i64 (sn1.po 2),.int .i64 (sn1.ba 0),.int .i64 (sn1.ba 1),.int .i64 (sn1.ba 2),.int .i64 (sn1.sh),.int .i64 (sn1.pt)]:=by rw [hR8];rfl
   rw [hv] at hQ
   have U7:=ca2 U5 k3
   refine AW.g U7 Tru ?_
   apply J3
   apply AW.y rfl
   refine AW.q fun K J3=>?_
   refine AW.c 1 U7 Tru ?_
   apply AW.x rfl
   apply AW.z
   apply J3
   refine AW.c 1 U7 Tru ?_
   exact AW.ret (hQ _ _ _ (RetP.z hwf Tru))
  have h3w:¬(Jd3 s f).kd i9=3:=fun q=>h3 (hkd.symm.trans q)
  have k3:(s.pk jj ==3)=false:=by simpa using h3
  have U8:=ca2 U5 k3
  refine AW.g U8 Tru ?_
  apply J3
  apply AW.x rfl
  apply AW.z
  apply J2
  refine AW.q fun K J2=>?_
  refine AW.c 1 U8 Tru ?_
  refine AW.condJ rfl [5,10,11,12,13,16,17,18,20,21,22,24] [] [(m.length+6,⟨.fix,56,0,0,[.int .i64 (sn2.li 0),.int .i64 (sn2.li 1),.int .i64 (sn2.li 2),.int .i64 (sn2.dep),.int .i64 (sn2.no 0),.int .i64 (sn2.no 1),.int .i64 (sn2.no 2),.int .i64 (sn2.po 0),.int .i64 (sn2.po 1),.int .i64 (sn2.po 2),.int .i64 (sn2.ba 0),.int .i64 (sn2.ba 1),.int .i64 (sn2.ba 2),.int .i64 (sn2.sh),.int .i64 (sn2.pt)]⟩)] (fun h143=>?_) (fun h143=>?_) ?_
  ·have hk0:s.pk jj=0:=eq_of_beq h143
   obtain ⟨lv,hlv⟩:∃ l,Jm8 (Jd3 s f) k d h i9 sn1.pt=l:=⟨_,rfl⟩
   have hlv2:Jm8 (Jd3 s f) k d h i9 pt=lv:=by rw [<-hlv,hp1,hpt9]
   have X2:sn2=sn1.add (Je2 wt lv):=by rw [<-hsn2,<-hlv];exact if_pos (hkd.trans hk0)
   have p2li0:sn2.li 0=Jd9 sn1.li (Je2 wt lv) 0:=by have q:=congrArg (fun z:SN=>z.li 0) X2;exact q
   have p2li1:sn2.li 1=Jd9 sn1.li (Je2 wt lv) 1:=by have q:=congrArg (fun z:SN=>z.li 1) X2;exact q
   have p2li2:sn2.li 2=Jd9 sn1.li (Je2 wt lv) 2:=by have q:=congrArg (fun z:SN=>z.li 2) X2;exact q
   have p2no0:sn2.no 0=sn1.no 0:=by have q:=congrArg (fun z:SN=>z.no 0) X2;exact q
   have p2no1:sn2.no 1=sn1.no 1:=by have q:=congrArg (fun z:SN=>z.no 1) X2;exact q
   have p2no2:sn2.no 2=sn1.no 2:=by have q:=congrArg (fun z:SN=>z.no 2) X2;exact q
   have p2po0:sn2.po 0=sn1.po 0:=by have q:=congrArg (fun z:SN=>z.po 0) X2;exact q
   have p2po1:sn2.po 1=sn1.po 1:=by have q:=congrArg (fun z:SN=>z.po 1) X2;exact q
   have p2po2:sn2.po 2=sn1.po 2:=by have q:=congrArg (fun z:SN=>z.po 2) X2;exact q
   have p2ba0:sn2.ba 0=sn1.ba 0:=by have q:=congrArg (fun z:SN=>z.ba 0) X2;exact q
   have p2ba1:sn2.ba 1=sn1.ba 1:=by have q:=congrArg (fun z:SN=>z.ba 1) X2;exact q
   have p2ba2:sn2.ba 2=sn1.ba 2:=by have q:=congrArg (fun z:SN=>z.ba 2) X2;exact q
   have p2dep:sn2.dep=sn1.dep:=by have q:=congrArg (fun z:SN=>z.dep) X2;exact q
   have p2sh:sn2.sh=sn1.sh:=by have q:=congrArg (fun z:SN=>z.sh) X2;exact q
   have p2pt:sn2.pt=sn1.pt:=by have q:=congrArg (fun z:SN=>z.pt) X2;exact q
   refine AW.draw [.val,.rd 0,.rd 0,.rd 0,.val,.rd 0,.val,.rd 0,.val,.ext,.ext,.ext,.val,.wr] fol (by decide) (by kernel_rfl) ?_
   simp only [push_cast,simprocAttr,U8]
   refine DCall.z ((by have h9:=fun M hR hm=>Xc1 s R f (m.length+2) 0 k d h i9 pt M hR hm;rw [hkc,hlv2,hht] at h9;exact h9 _ (hR.app _) ⟨.grow,24,by rw [Jg1];rfl⟩ hG hdr hhi hi9)) ?_
   simp only [push_cast,simprocAttr,U8]
   refine DCall.z (Ka0 wt lv _) ?_
   simp only [push_cast,simprocAttr,U8]
   refine DCall.z (Ku5 sn1.li (Je2 wt lv) _) ?_
   simp only [push_cast,simprocAttr,U8]
   apply Jc2
   try simp only [Jb1,Ja2,push_cast,simprocAttr,U8,p2li0,p2li1,p2li2,p2no0,p2no1,p2no2,p2po0,p2po1,p2po2,p2ba0,p2ba1,p2ba2,p2dep,p2sh,p2pt]
   exact Weak.same (by simp only [KS,simprocAttr,p2li0,p2li1,p2li2,p2no0,p2no1,p2no2,p2po0,p2po1,p2po2,p2ba0,p2ba1,p2ba2,p2dep,p2sh,p2pt]) (by first|rfl|simp only [KS,simprocAttr,p2li0,p2li1,p2li2,p2no0,p2no1,p2no2,p2po0,p2po1,p2po2,p2ba0,p2ba1,p2ba2,p2dep,p2sh,p2pt])
  ·have hk0:¬s.pk jj=0:=fun q=>by rw [q] at h143;cases h143
   have X2:sn2=sn1:=by rw [<-hsn2];exact if_neg (fun q=>hk0 (hkd.symm.trans q))
   have p2li0:sn2.li 0=sn1.li 0:=by have q:=congrArg (fun z:SN=>z.li 0) X2;exact q
   have p2li1:sn2.li 1=sn1.li 1:=by have q:=congrArg (fun z:SN=>z.li 1) X2;exact q
   have p2li2:sn2.li 2=sn1.li 2:=by have q:=congrArg (fun z:SN=>z.li 2) X2;exact q
   have p2no0:sn2.no 0=sn1.no 0:=by have q:=congrArg (fun z:SN=>z.no 0) X2;exact q
   have p2no1:sn2.no 1=sn1.no 1:=by have q:=congrArg (fun z:SN=>z.no 1) X2;exact q
   have p2no2:sn2.no 2=sn1.no 2:=by have q:=congrArg (fun z:SN=>z.no 2) X2;exact q
   have p2po0:sn2.po 0=sn1.po 0:=by have q:=congrArg (fun z:SN=>z.po 0) X2;exact q
   have p2po1:sn2.po 1=sn1.po 1:=by have q:=congrArg (fun z:SN=>z.po 1) X2;exact q
   have p2po2:sn2.po 2=sn1.po 2:=by have q:=congrArg (fun z:SN=>z.po 2) X2;exact q
   have p2ba0:sn2.ba 0=sn1.ba 0:=by have q:=congrArg (fun z:SN=>z.ba 0) X2;exact q
   have p2ba1:sn2.ba 1=sn1.ba 1:=by have q:=congrArg (fun z:SN=>z.ba 1) X2;exact q
   have p2ba2:sn2.ba 2=sn1.ba 2:=by have q:=congrArg (fun z:SN=>z.ba 2) X2;exact q
   have p2dep:sn2.dep=sn1.dep:=by have q:=congrArg (fun z:SN=>z.dep) X2;exact q
   have p2sh:sn2.sh=sn1.sh:=by have q:=congrArg (fun z:SN=>z.sh) X2;exact q
   have p2pt:sn2.pt=sn1.pt:=by have q:=congrArg (fun z:SN=>z.pt) X2;exact q
   apply AW.z
   apply Jc2
   try simp only [Jb1,Ja2,push_cast,simprocAttr,U8,p2li0,p2li1,p2li2,p2no0,p2no1,p2no2,p2po0,p2po1,p2po2,p2ba0,p2ba1,p2ba2,p2dep,p2sh,p2pt]
   exact Weak.same (by simp only [KS,simprocAttr,p2li0,p2li1,p2li2,p2no0,p2no1,p2no2,p2po0,p2po1,p2po2,p2ba0,p2ba1,p2ba2,p2dep,p2sh,p2pt]) (by first|rfl|simp only [KS,simprocAttr,p2li0,p2li1,p2li2,p2no0,p2no1,p2no2,p2po0,p2po1,p2po2,p2ba0,p2ba1,p2ba2,p2dep,p2sh,p2pt])
  try simp only [Jb1,Ja2,push_cast,simprocAttr,U8]
  apply J2
  have q_8:=Jv3 k (d+3)
  rw [hkc] at q_8
  have q_9:=Jv3 k (d+4)
  rw [hkc] at q_9
  have q_10:=Xq6 (s.pk jj) (s.pc jj) (s.pr jj) rr.d h.n (k.u (d+3)) (k.u (d+4))
  rw [hT1] at q_10
  unfold tnC c3C at q_10
  refine AW.d [.rd 0,.val,.rd 0,.val,.rd 0,.rd 0,.val,.val,.ext,.rd 0,.val,.val,.ext,.ext,.fl,.wr] fol U8 (ca3 q_8 q_9 q_10) ?_
  refine AW.q fun K J2=>?_
  refine AW.q fun K J3=>?_
  cases hg:T.g
  ·have hR8:R9=sn2:=by rw [<-hR9];exact Jj1 hbn (by rw [<-hd9];exact Ky1 hF0 hh hsn1 hsn2 hT h3w hg)
   have hv:snC R9=[.int .i64 (sn2.li 0),.int .i64 (sn2.li 1),.int .i64 (sn2.li 2),.int .i64 (sn2.dep),.int .i64 (sn2.no 0),.int .i64 (sn2.no 1),.int .i64 (sn2.no 2),.int .i64 (sn2.po 0),.int .i64 (sn2.po 1),.int .i64 (sn2.po 2),.int .i64 (sn2.ba 0),.int .i64 (sn2.ba 1),.int .i64 (sn2.ba 2),.int .i64 (sn2.sh),.int .i64 (sn2.pt)]:=by rw [hR8];rfl
   rw [hv] at hQ
   have U9:=ca2 U8 hg
   refine AW.g U9 Tru ?_
   apply J3
   apply AW.y rfl
   refine AW.c 1 U9 Tru ?_
   exact AW.ret (hQ _ _ _ (RetP.z hwf Tru))
  skip
  have U10:=ca2 U8 hg
  refine AW.g U10 Tru ?_
  apply J3
  apply AW.x rfl
  apply AW.z
  apply J2
  refine AW.c 2 U10 (Ka0 wt T.l) ?_
  refine AW.q fun K J2=>?_
  refine AW.q fun K J3=>?_
  have hk29:bb=0\/(¬bb=0/\Kv5 (Je2 wt T.l)<=Jb9 (k.u (d+5)))\/(¬bb=0/\¬Kv5 (Je2 wt T.l)<=Jb9 (k.u (d+5))):=by
    by_cases q1:bb=0
    · exact .inl q1
    by_cases q2:Kv5 (Je2 wt T.l)<=Jb9 (k.u (d+5))
    · exact .inr (.inl ⟨q1,q2⟩)
    exact .inr (.inr ⟨q1,q2⟩)
  rcases hk29 with hb0|⟨hb0,hl9⟩|⟨hb0,hl9⟩
  ·have e9:¬(1:Int)<=(bb:Int):=by omega
   have hNx:bb+1<=s.dp.toNat/\Jw1 (Jd3 s f) k (s.dp.toNat - (bb+1)) (bb+1) ⟨sn2,Je2 wt T.l,T.s,⟨h.p,T.d,sn.pt⟩⟩=R9:=⟨hbn,by rw [<-hR9];exact (Kb6 hbn (by rw [<-hd9];exact Qh8 hF0 hh hsn1 hsn2 hT h3w hg hb0)).symm⟩
   have hmu:s.dp.toNat - (bb+1)<s.dp.toNat - bb:=by omega
   have U11:=ca2 U10 e9
   refine AW.g U11 Tru ?_
   apply J3
   apply AW.x rfl
   apply AW.z
   apply J2
   refine AW.g U11 Tru ?_
   apply Ja8
   apply J1
   refine AW.g U11 Tru ?_
   apply Jc2
   refine ⟨⟨bb+1,⟨sn2,Je2 wt T.l,T.s,⟨h.p,T.d,sn.pt⟩⟩⟩,⟨hNx.1,hNx.2,hp2.trans hpt9⟩,hmu,?_⟩
   try simp only [Jb1,Ja2,push_cast,simprocAttr,U11,hwi,hp2,hpt9,Int.natCast_add,Int.natCast_one]
   exact Weak.to (extra:=_) (by simp only [KS,simprocAttr,hwi,hp2,hpt9,Int.natCast_add,Int.natCast_one]) (by first|rfl|(simp only [List.append_assoc,List.cons_append,List.nil_append];rfl)) (by first|rfl|(simp [AV.below,CV.below];done)|(simp [AV.below,CV.below];omega)) (by exact MWf.app (hwf.grow (by simp)) (Ja0 (hR.bel _ (by simp)) (Ja0 rfl (Ja0 (Jc1 _ (fun _=>rfl) _) (Ja0 rfl (Ja0 rfl (Ja0 rfl (Ja0 rfl (Ja0 rfl Jb7)))))))))
  ·have e9:(1:Int)<=(bb:Int):=by omega
   have hR8:R9=sn2:=by rw [<-hR9];exact Jj1 hbn (by rw [<-hd9];exact Ky4 hF0 hh hsn1 hsn2 hT h3w hg hb0 hl9)
   have hv:snC R9=[.int .i64 (sn2.li 0),.int .i64 (sn2.li 1),.int .i64 (sn2.li 2),.int .i64 (sn2.dep),.int .i64 (sn2.no 0),.int .i64 (sn2.no 1),.int .i64 (sn2.no 2),.int .i64 (sn2.po 0),.int .i64 (sn2.po 1),.int .i64 (sn2.po 2),.int .i64 (sn2.ba 0),.int .i64 (sn2.ba 1),.int .i64 (sn2.ba 2),.int .i64 (sn2.sh),.int .i64 (sn2.pt)]:=by rw [hR8];rfl
   rw [hv] at hQ
   have U12:=ca2 U10 e9
   refine AW.g U12 Tru ?_
   apply J3
   apply AW.y rfl
   have q_11:=Jv3 k (d+5)
   rw [hkc] at q_11
   refine AW.d [.rd 0,.rd 0,.val,.val,.ext,.ext,.val,.val,.val,.fl,.wr,.val] fol U12 (ca2 q_11 (Vm8 (Je2 wt T.l) (k.u (d+5)) _ hl9)) ?_
   refine AW.q fun K J3=>?_
   refine AW.c 1 U12 Tru ?_
   apply AW.y rfl
   refine AW.c 1 U12 Tru ?_
   exact AW.ret (hQ _ _ _ (RetP.z hwf Tru))
  have e9:(1:Int)<=(bb:Int):=by omega
  have hNx:bb+1<=s.dp.toNat/\Jw1 (Jd3 s f) k (s.dp.toNat - (bb+1)) (bb+1) ⟨sn2,Jn8 (Je2 wt T.l) (k.u (d+5)),T.s,⟨h.p,T.d,sn.pt⟩⟩=R9:=⟨hbn,by rw [<-hR9];exact (Kb6 hbn (by rw [<-hd9];exact Qx0 hF0 hh hsn1 hsn2 hT h3w hg hb0 hl9)).symm⟩
  have hmu:s.dp.toNat - (bb+1)<s.dp.toNat - bb:=by omega
  have U13:=ca2 U10 e9
  refine AW.g U13 Tru ?_
  apply J3
  apply AW.y rfl
  have q_12:=Jv3 k (d+5)
  rw [hkc] at q_12
  refine AW.d [.rd 0,.rd 0,.val,.val,.ext,.ext,.val,.val,.val,.fl,.wr,.val] fol U13 (ca2 q_12 (Vm9 (Je2 wt T.l) (k.u (d+5)) _ hl9)) ?_
  refine AW.q fun K J3=>?_
  refine AW.c 1 U13 Tru ?_
  apply AW.x rfl
  apply AW.z
  apply J3
  refine AW.g U13 Tru ?_
  apply J2
  refine AW.g U13 Tru ?_
  apply Ja8
  apply J1
  refine AW.g U13 Tru ?_
  apply Jc2
  refine ⟨⟨bb+1,⟨sn2,Jn8 (Je2 wt T.l) (k.u (d+5)),T.s,⟨h.p,T.d,sn.pt⟩⟩⟩,⟨hNx.1,hNx.2,hp2.trans hpt9⟩,hmu,?_⟩
  try simp only [Jb1,Ja2,push_cast,simprocAttr,U13,hwi,hp2,hpt9,Int.natCast_add,Int.natCast_one]
  exact Weak.to (extra:=_) (by simp only [KS,simprocAttr,hwi,hp2,hpt9,Int.natCast_add,Int.natCast_one]) (by first|rfl|(simp only [List.append_assoc,List.cons_append,List.nil_append];rfl)) (by first|rfl|(simp [AV.below,CV.below];done)|(simp [AV.below,CV.below];omega)) (by exact MWf.app (hwf.grow (by simp)) (Ja0 (hR.bel _ (by simp)) (Ja0 rfl (Ja0 (Jc1 _ (fun _=>rfl) _) (Ja0 rfl (Ja0 rfl (Ja0 rfl (Ja0 rfl (Ja0 rfl Jb7)))))))))
 have hbn:¬bb<s.dp.toNat:=by have:=of_decide_eq_false h76;omega
 have hbe:bb=s.dp.toNat:=by omega
 have hR8:R9=sn:=by rw [<-hR9];exact Kx9 (by omega)
 have hv:snC R9=[.int .i64 (sn.li 0),.int .i64 (sn.li 1),.int .i64 (sn.li 2),.int .i64 (sn.dep),.int .i64 (sn.no 0),.int .i64 (sn.no 1),.int .i64 (sn.no 2),.int .i64 (sn.po 0),.int .i64 (sn.po 1),.int .i64 (sn.po 2),.int .i64 (sn.ba 0),.int .i64 (sn.ba 1),.int .i64 (sn.ba 2),.int .i64 (sn.sh),.int .i64 (sn.pt)]:=by rw [hR8];rfl
 rw [hv] at hQ
 apply AW.v
 apply Jb0
 apply Jb0
 apply Ja6
 apply J0
 refine AW.c 1 U1 Tru ?_
 exact AW.ret (hQ _ _ _ (RetP.z hwf Tru))
structure GdS (s:SC):Prop where
 hd:HdR s
 p:s.np<=32
 pa:∀ i,i<s.np->PaR s i
 t:s.nt<=32
 tr:∀ i,i<s.nt->TrS s i
 j:s.nj<=32
 jo:∀ i,i<s.nj->JoR s i
 x:s.nx<=128
 sh:∀ i,i<s.nx->ShR s i
 le:LeR s
 la:(Jm6 (glB s) s.nx).length<=16
theorem Js2 {s:SC}(h:(Jh9 s).1=0):GdS s/\Jh9 s=(0,0):=by
 have fb:∀ (P:Nat->Prop) [DecidablePred P] (n:Nat),¬fbN (fun i=>decide (P i)) n<n->∀ k,k<n->P k:=fun P _ n q k hk=>by
  have:=Qn5 (f:=fun i=>decide (P i)) n (by have:=Kg0 (fun i=>decide (P i)) n;omega) k hk
  exact of_decide_eq_true this
 have h0:=h
 unfold Jh9 at h
 split at h
 ·exact absurd h (by decide)
 rename_i a1
 split at h
 ·exact absurd h (by decide)
 rename_i a2
 split at h
 ·exact absurd h (by simp)
 rename_i a3
 split at h
 ·exact absurd h (by decide)
 rename_i a4
 split at h
 ·exact absurd h (by simp)
 rename_i a5
 split at h
 ·exact absurd h (by decide)
 rename_i a6
 split at h
 ·exact absurd h (by simp)
 rename_i a7
 split at h
 ·exact absurd h (by decide)
 rename_i a8
 split at h
 ·exact absurd h (by simp)
 rename_i a9
 split at h
 ·exact absurd h (by decide)
 rename_i a10
 split at h
 ·exact absurd h (by simp)
 rename_i a11
 refine ⟨⟨Classical.not_not.1 a1,by omega,fb (PaR s) _ a3,by omega,fb (TrS s) _ a5,by omega,fb (JoR s) _ a7,by omega,fb (ShR s) _ a9,Classical.not_not.1 a10,by omega⟩,?_⟩
 unfold Jh9
 rw [if_neg a1,if_neg a2,if_neg a3,if_neg a4,if_neg a5,if_neg a6,if_neg a7,if_neg a8,if_neg a9,if_neg a10,if_neg a11]
theorem Xp1 {s:SC}{i:Nat}(h:ShR s i):inB (s.xj i) (-1) ((s.nj:Int) - 1)=true/\inB (s.xp i) 0 ((s.np:Int) - 1)=true:=by
 unfold ShR at h
 split at h
 ·exact ⟨h.1,h.2.1⟩
 exact ⟨h.1,h.2.1⟩
theorem Qb6 {s:SC}(h:GdS s):GoS s where
 xp:=fun i hi=>by have:=inB_iff.1 (Xp1 (h.sh i hi)).2;omega
 nx:=h.x
 lm:=by rw [<-Kd2];exact h.la
 w:=inB_iff.1 h.hd.1
 h:=inB_iff.1 h.hd.2.1
 sm:=inB_iff.1 h.hd.2.2.1
 dp:=inB_iff.1 h.hd.2.2.2.1
 fr:=inB_iff.1 h.hd.2.2.2.2.1
 sh:=⟨h.hd.2.2.2.2.2.1,h.hd.2.2.2.2.2.2.1⟩
theorem GdS.xj {s:SC}(h:GdS s):∀ i,i<s.nx->-1<=s.xj i/\s.xj i<(s.nj:Int):=fun i hi=>by have:=inB_iff.1 (Xp1 (h.sh i hi)).1;omega
theorem GdS.ey {s:SC}(h:GdS s):s.ey<(s.nt:Int):=by have:=inB_iff.1 h.le.1;omega
theorem GdS.lk {s:SC}(h:GdS s):s.lk<(s.nt:Int):=by have:=inB_iff.1 h.le.2.1;omega
theorem Qz9 (s:SC)(R:RWs)(f:Int)(m:Ja1)(hR:ScR 140 119 223 148 155 m s R)(hc:¬(Jh9 s).1=0):Ctr Tryz.prog 10 [.agg (scC s R),.one (.int .i64 f)] m (.tup [(false,[.nilp]),(false,[.int .i64 (Jh9 s).1])]) m:=by
 refine Ctr.en Tryz.func10 [.tmp 4,.tmp 5] 47 fun hwf Q hQ=>?_
 have e1:((Jh9 s).1 !=0)=true:=by simpa using hc
 have U1:=ca4 @Jf4 @Je7 @Jf3 (ca2 @Ja4 e1)
 refine AW.c 1 U1 Tru ?_
 refine AW.q fun K J0=>?_
 refine AW.c 2 U1 (Qo1 s R _ (hR.app _)) ?_
 apply AW.y rfl
 refine AW.c 1 U1 Tru ?_
 exact AW.ret (hQ _ _ _ (RetP.z hwf U1))
theorem Va0 (s:SC)(R:RWs)(f:Int)(m:Ja1)(hR:ScR 140 119 223 148 155 m s R)(hc:(Jh9 s).1=0)(hf:f<0\/s.fr<=f):Ctr Tryz.prog 10 [.agg (scC s R),.one (.int .i64 f)] m (.tup [(false,[.nilp]),(false,[.int .i64 1])]) m:=by
 refine Ctr.en Tryz.func10 [.tmp 4,.tmp 5] 47 fun hwf Q hQ=>?_
 have e1:((Jh9 s).1 !=0)=false:=by rw [hc];rfl
 have U2:=ca4 @Jf4 @Je7 @Jf3 (ca2 @Ja4 e1)
 refine AW.c 1 U2 Tru ?_
 refine AW.q fun K J0=>?_
 refine AW.c 2 U2 (Qo1 s R _ (hR.app _)) ?_
 apply AW.x rfl
 apply AW.z
 apply J0
 refine AW.q fun K J0=>?_
 refine AW.q fun K J1=>?_
 have hk4:f<0\/(¬f<0/\s.fr<=f):=by omega
 rcases hk4 with e2|⟨e2,e3⟩
 ·skip
  have U3:=ca2 U2 e2
  refine AW.g U3 Tru ?_
  apply J1
  apply AW.y rfl
  refine AW.c 1 U3 Tru ?_
  exact AW.ret (hQ _ _ _ (RetP.z hwf U3))
 skip
 have U4:=ca3 U2 e2 e3
 refine AW.g U4 Tru ?_
 apply J1
 apply AW.y rfl
 refine AW.c 1 U4 Tru ?_
 exact AW.ret (hQ _ _ _ (RetP.z hwf U4))
theorem Xd4 (s:SC)(R:RWs)(f:Int)(m:Ja1)(hR:ScR 140 119 223 148 155 m s R)(hc:(Jh9 s).1=0)(h0:0<=f)(h1:f<s.fr)(hn:0<s.nx):Ctr Tryz.prog 10 [.agg (scC s R),.one (.int .i64 f)] m (.tup [(false,[.ptr (m.length+6) 0 0]),(false,[.int .i64 0])]) (m++[⟨.fix,52,0,0,scC s R⟩,⟨.grow,204,0,24,Jb6 s.nx (mvF s f)⟩,⟨.grow,255,0,16,ndL (Jj0 (prM (mvS s f)) s.nx).2⟩,⟨.grow,3,0,1,iC (Jj0 (prM (mvS s f)) s.nx).1⟩,⟨.grow,204,0,24,Jb6 s.nx (mF (mvS s f))⟩,⟨.grow,3,0,1,iC (Jr3 s s.nx)⟩,⟨.fix,135,0,0,scC s R++(.int .i64 f::.sl (m.length+2) 0 0 (Jj0 (prM (mvS s f)) s.nx).2.length::.sl (m.length+3) 0 0 s.nx::.sl (m.length+4) 0 0 s.nx::.sl (m.length+5) 0 0 (Jr3 s s.nx).length::(vwC (Jj7 s (f*65536))++vwC (Jj7 s (f*65536+s.sh))))⟩]):=by
 refine Ctr.en Tryz.func10 [.tmp 4,.tmp 5] 47 fun hwf Q hQ=>?_
 have e1:((Jh9 s).1 !=0)=false:=by rw [hc];rfl
 obtain ⟨hG,_⟩:=Js2 hc
 have hg:=Qb6 hG
 have hfr:=hg.fr
 have hs:=hg.sh
 have hgx:=hG.x
 have hgj:=hG.j
 have hT:=hG.tr
 have hX:=hG.xj
 have hf:0<=f/\f<=1000000:=by omega
 have e2:¬f<0:=by omega
 have e3:¬s.fr<=f:=by omega
 obtain ⟨A,hA⟩:∃ A,Jj7 s (f*65536)=A:=⟨_,rfl⟩
 obtain ⟨B,hB⟩:∃ B,Jj7 s (f*65536+s.sh)=B:=⟨_,rfl⟩
 rw [hA,hB] at hQ
 have U5:=ca4 @Jf4 @Je7 @Jf3 (ca4 @Ja4 @Jy9 e1 (ca2 e2 e3))
 refine AW.c 1 U5 Tru ?_
 refine AW.q fun K J0=>?_
 refine AW.c 2 U5 (Qo1 s R _ (hR.app _)) ?_
 apply AW.x rfl
 apply AW.z
 apply J0
 refine AW.q fun K J0=>?_
 refine AW.c 1 U5 Tru ?_
 apply AW.x rfl
 apply AW.z
 apply J0
 refine AW.q fun K J0=>?_
 refine AW.draw [.rd 0,.val,.rd 0,.val,.ext,.ext,.rd 0,.ext,.rd 0,.val,.rd 0,.val,.ext,.ext,.rd 0,.val,.rd 0,.val,.ext,.ext,.val,.ext,.val,.val] fol (by decide) (by kernel_rfl) ?_
 simp only [push_cast,simprocAttr,U5]
 refine DCall.by (Ve8 s R f _ (hR.app _) hT hX hf hs (by omega) (by omega)) ?_
 simp only [push_cast,simprocAttr,U5]
 refine DCall.by (Vy1 (mvS s f) (m.length+1) 0 s.nx _ ⟨.grow,24,by rw [Jg1];rfl⟩ hgx hn) ?_
 simp only [push_cast,simprocAttr,U5]
 refine DCall.by ((by have h9:=fun M hR=>Vt3 s R M hR;rw [Kd2,Jx5] at h9;exact h9 _ (hR.app _))) ?_
 simp only [push_cast,simprocAttr,U5]
 refine DCall.z ((by have h:=Qj9 s f;unfold hdC c3C at h;exact h _ hf)) ?_
 simp only [push_cast,simprocAttr,U5]
 refine DCall.z ((by have h9:=fun M hR=>Qh6 s R (f*65536) M hR hT;rw [hA] at h9;exact h9 _ (hR.app _))) ?_
 simp only [push_cast,simprocAttr,U5]
 refine DCall.z ((by have h:=Qx4 s f;unfold hdC c3C at h;exact h _ hf hs)) ?_
 simp only [push_cast,simprocAttr,U5]
 refine DCall.z ((by have h9:=fun M hR=>Qh6 s R (f*65536+s.sh) M hR hT;rw [hB] at h9;exact h9 _ (hR.app _))) ?_
 simp only [push_cast,simprocAttr,U5]
 refine DExt.by (by first|rfl|exact (List.append_nil _).symm|(simp only [List.append_assoc,List.cons_append,List.nil_append];rfl)) ?_
 simp only [push_cast,simprocAttr,U5]
 apply J0
 refine AW.ret ?_
 refine hQ _ _ _ ?_
 refine RetP.keep (by first|exact Or.inr rfl|exact Or.inl rfl) ?_
 (simp only [Jd0,Ja7,Jb5,AV.tv,push_cast,simprocAttr])<;>rfl
theorem Xd5 (s:SC)(R:RWs)(f:Int)(m:Ja1)(hR:ScR 140 119 223 148 155 m s R)(hc:(Jh9 s).1=0)(h0:0<=f)(h1:f<s.fr)(hn:s.nx=0):Ctr Tryz.prog 10 [.agg (scC s R),.one (.int .i64 f)] m (.tup [(false,[.ptr (m.length+4) 0 0]),(false,[.int .i64 0])]) (m++[⟨.fix,52,0,0,scC s R⟩,⟨.grow,204,0,24,Jb6 s.nx (mvF s f)⟩,⟨.grow,204,0,24,Jb6 s.nx (mF (mvS s f))⟩,⟨.grow,3,0,1,iC (Jr3 s s.nx)⟩,⟨.fix,135,0,0,scC s R++(.int .i64 f::.nils::.nils::.sl (m.length+2) 0 0 s.nx::.sl (m.length+3) 0 0 (Jr3 s s.nx).length::(vwC (Jj7 s (f*65536))++vwC (Jj7 s (f*65536+s.sh))))⟩]):=by
 refine Ctr.en Tryz.func10 [.tmp 4,.tmp 5] 47 fun hwf Q hQ=>?_
 have e1:((Jh9 s).1 !=0)=false:=by rw [hc];rfl
 obtain ⟨hG,_⟩:=Js2 hc
 have hg:=Qb6 hG
 have hfr:=hg.fr
 have hs:=hg.sh
 have hgx:=hG.x
 have hgj:=hG.j
 have hT:=hG.tr
 have hX:=hG.xj
 have hf:0<=f/\f<=1000000:=by omega
 have e2:¬f<0:=by omega
 have e3:¬s.fr<=f:=by omega
 obtain ⟨A,hA⟩:∃ A,Jj7 s (f*65536)=A:=⟨_,rfl⟩
 obtain ⟨B,hB⟩:∃ B,Jj7 s (f*65536+s.sh)=B:=⟨_,rfl⟩
 rw [hA,hB] at hQ
 have U6:=ca4 @Jf4 @Je7 @Jf3 (ca4 @Ja4 @Jy9 e1 (ca2 e2 e3))
 refine AW.c 1 U6 Tru ?_
 refine AW.q fun K J0=>?_
 refine AW.c 2 U6 (Qo1 s R _ (hR.app _)) ?_
 apply AW.x rfl
 apply AW.z
 apply J0
 refine AW.q fun K J0=>?_
 refine AW.c 1 U6 Tru ?_
 apply AW.x rfl
 apply AW.z
 apply J0
 refine AW.q fun K J0=>?_
 refine AW.draw [.rd 0,.val,.rd 0,.val,.ext,.ext,.rd 0,.ext,.rd 0,.val,.rd 0,.val,.ext,.ext,.rd 0,.val,.rd 0,.val,.ext,.ext,.val,.ext,.val,.val] fol (by decide) (by kernel_rfl) ?_
 simp only [push_cast,simprocAttr,U6]
 refine DCall.by (Ve8 s R f _ (hR.app _) hT hX hf hs (by omega) (by omega)) ?_
 simp only [push_cast,simprocAttr,U6]
 refine DCall.by (Vi7 (mvS s f) (m.length+1) 0 s.nx _ ⟨.grow,24,by rw [Jg1];rfl⟩ hgx hn) ?_
 simp only [push_cast,simprocAttr,U6]
 refine DCall.by ((by have h9:=fun M hR=>Vt3 s R M hR;rw [Kd2,Jx5] at h9;exact h9 _ (hR.app _))) ?_
 simp only [push_cast,simprocAttr,U6]
 refine DCall.z ((by have h:=Qj9 s f;unfold hdC c3C at h;exact h _ hf)) ?_
 simp only [push_cast,simprocAttr,U6]
 refine DCall.z ((by have h9:=fun M hR=>Qh6 s R (f*65536) M hR hT;rw [hA] at h9;exact h9 _ (hR.app _))) ?_
 simp only [push_cast,simprocAttr,U6]
 refine DCall.z ((by have h:=Qx4 s f;unfold hdC c3C at h;exact h _ hf hs)) ?_
 simp only [push_cast,simprocAttr,U6]
 refine DCall.z ((by have h9:=fun M hR=>Qh6 s R (f*65536+s.sh) M hR hT;rw [hB] at h9;exact h9 _ (hR.app _))) ?_
 simp only [push_cast,simprocAttr,U6]
 refine DExt.by (by first|rfl|exact (List.append_nil _).symm|(simp only [List.append_assoc,List.cons_append,List.nil_append];rfl)) ?_
 simp only [push_cast,simprocAttr,U6]
 apply J0
 refine AW.ret ?_
 refine hQ _ _ _ ?_
 refine RetP.keep (by first|exact Or.inr rfl|exact Or.inl rfl) ?_
 (simp only [Jd0,Ja7,Jb5,AV.tv,push_cast,simprocAttr])<;>rfl
theorem Kk8 (s:SC)(R:RWs)(f:Int)(m:Ja1)(hR:ScR 140 119 223 148 155 m s R)(hc:(Jh9 s).1=0)(h0:0<=f)(h1:f<s.fr):∃ (L:Ja1) (p:Nat) (E:SE),Ctr Tryz.prog 10 [.agg (scC s R),.one (.int .i64 f)] m (.tup [(false,[.ptr p 0 0]),(false,[.int .i64 0])]) (m++L)/\SetAt (m++L) p s R f E (Jj7 s (f*65536)) (Jj7 s (f*65536+s.sh))/\(MWf m.length m->MWf (m++L).length (m++L)):=by
 obtain ⟨hG,_⟩:=Js2 hc
 have hg:=Qb6 hG
 have hgx:=hG.x
 by_cases hn:s.nx=0
 ·refine ⟨_,m.length+4,⟨.nils,.nils,m.length+2,0,m.length+3,0,fun _ _ _=>0⟩,Xd5 s R f m hR hc h0 h1 hn,?_,fun hw=>by
   refine MWf.app (hw.grow (by simp)) (Ja0 (hR.bel _ (by simp)) (Ja0 (Jc1 _ (fun _=>rfl) _) (Ja0 (Jc1 _ (fun _=>rfl) _) (Ja0 (Jg9 _ _) (Ja0 ?_ Jb7)))))
   have hb:=hR.bel (m.length+5) (by omega)
   simp only [List.length_append,List.length_cons,List.length_nil]
   rw [List.all_append,hb]
   simp [CV.below,vwC,c3C]⟩
  refine ⟨by rw [Jg1];rfl,hR.app _,⟨.grow,24,by rw [Jg1];rfl⟩,⟨.grow,1,by rw [Jg1];rfl⟩,fun L r near far=>?_,hg⟩
  exact Vr2 r (mvS s f) (m.length+2) 0 s.nx near far _ hn
 have hn':0<s.nx:=by omega
 have hC:=Xd4 s R f m hR hc h0 h1 hn'
 obtain ⟨TF,hTF⟩:=Xi2 (mvS s f) (m.length+2) 0 (m.length+3) 0 (m.length+4) 0 s.nx (m++[⟨.fix,52,0,0,scC s R⟩,⟨.grow,204,0,24,Jb6 s.nx (mvF s f)⟩,⟨.grow,255,0,16,ndL (Jj0 (prM (mvS s f)) s.nx).2⟩,⟨.grow,3,0,1,iC (Jj0 (prM (mvS s f)) s.nx).1⟩,⟨.grow,204,0,24,Jb6 s.nx (mF (mvS s f))⟩,⟨.grow,3,0,1,iC (Jr3 s s.nx)⟩,⟨.fix,135,0,0,scC s R++(.int .i64 f::.sl (m.length+2) 0 0 (Jj0 (prM (mvS s f)) s.nx).2.length::.sl (m.length+3) 0 0 s.nx::.sl (m.length+4) 0 0 s.nx::.sl (m.length+5) 0 0 (Jr3 s s.nx).length::(vwC (Jj7 s (f*65536))++vwC (Jj7 s (f*65536+s.sh))))⟩]) hn' (by omega) ⟨.grow,16,by rw [Jg1];rfl⟩ ⟨.grow,1,by rw [Jg1];rfl⟩ ⟨.grow,24,by rw [Jg1];rfl⟩
 refine ⟨_,m.length+6,⟨.sl (m.length+2) 0 0 (Jj0 (prM (mvS s f)) s.nx).2.length,.sl (m.length+3) 0 0 s.nx,m.length+4,0,m.length+5,0,TF⟩,hC,?_,fun hw=>by
  refine MWf.app (hw.grow (by simp)) (Ja0 (hR.bel _ (by simp)) (Ja0 (Jc1 _ (fun _=>rfl) _) (Ja0 (Jc1 _ (fun _=>rfl) _) (Ja0 (Jg9 _ _) (Ja0 (Jc1 _ (fun _=>rfl) _) (Ja0 (Jg9 _ _) (Ja0 ?_ Jb7)))))))
  have hb:=hR.bel (m.length+7) (by omega)
  simp only [List.length_append,List.length_cons,List.length_nil]
  rw [List.all_append,hb]
  simp [CV.below,vwC,c3C]⟩
 exact ⟨by rw [Jg1];rfl,hR.app _,⟨.grow,24,by rw [Jg1];rfl⟩,⟨.grow,1,by rw [Jg1];rfl⟩,hTF,hg⟩
theorem Ku8 (s:SC)(R:RWs)(f:Int)(m:Ja1)(hR:ScR 140 119 223 148 155 m s R)(hc:(Jh9 s).1=0)(h0:0<=f)(h1:f<s.fr):∃ (L:Ja1) (p:Nat) (E:SE),Ctr Tryz.prog 10 [.agg (scC s R),.one (.int .i64 f)] m (.tup [(false,[.ptr p 0 0]),(false,[.int .i64 0])]) (m++L)/\SetAt (m++L) p s R f E (Jj7 s (f*65536)) (Jj7 s (f*65536+s.sh)):=by
 obtain ⟨L,p,E,h1,h2,_⟩:=Kk8 s R f m hR hc h0 h1
 exact ⟨L,p,E,h1,h2⟩
noncomputable def Kf7 (s:SC)(f:Int)(a b:VW)(x y:Int):Nat->V
 | 0=>(Jh0 s f a b x y 0).li
 | n+1=>Jd9 (Kf7 s f a b x y n) (Jh0 s f a b x y ((n+1:Nat):Int)).li
noncomputable def Vi3 (s:SC)(f:Int)(a b:VW)(x y:Int):SN :=
 ⟨Jk5 (Kf7 s f a b x y (s.sm.toNat - 1)) s.sm,(Jh0 s f a b x y 0).dep,(Jh0 s f a b x y 0).no,(Jh0 s f a b x y 0).po,(Jh0 s f a b x y 0).ba,(Jh0 s f a b x y 0).sh,(Jh0 s f a b x y 0).pt⟩
def snN:SN:=⟨fun _=>0,0,fun _=>0,fun _=>0,fun _=>0,-1,0⟩
theorem Kb5 (x y sm:Int)(m:Ja1):Ctr Tryz.prog 13 [.one .nilp,.one (.int .i64 x),.one (.int .i64 y),.one (.int .i64 sm)] m (.agg (snC snN)) m:=by
 refine Ctr.en Tryz.func13 [.cell 8 61] 232 fun hwf Q hQ=>?_
 have hv:snC snN=[.int .i64 0,.int .i64 0,.int .i64 0,.int .i64 0,.int .i64 0,.int .i64 0,.int .i64 0,.int .i64 0,.int .i64 0,.int .i64 0,.int .i64 0,.int .i64 0,.int .i64 0,.int .i64 (-1),.int .i64 0]:=rfl
 rw [hv] at hQ
 refine AW.c 1 Tru Tru ?_
 refine AW.q fun K J0=>?_
 refine AW.c 1 Tru Tru ?_
 apply AW.y rfl
 refine AW.c 1 Tru Tru ?_
 exact AW.ret (hQ _ _ _ (RetP.z hwf Tru))
theorem Km1 (x y:Int)(m:Ja1):Ctr Tryz.prog 15 [.one .nilp,.one (.int .i64 x),.one (.int .i64 y)] m (.agg (snC snN)) m:=by
 refine Ctr.en Tryz.func15 [.cell 6 61] 47 fun hwf Q hQ=>?_
 have hv:snC snN=[.int .i64 0,.int .i64 0,.int .i64 0,.int .i64 0,.int .i64 0,.int .i64 0,.int .i64 0,.int .i64 0,.int .i64 0,.int .i64 0,.int .i64 0,.int .i64 0,.int .i64 0,.int .i64 (-1),.int .i64 0]:=rfl
 rw [hv] at hQ
 have q_1:=Kb5 x y 0
 rw [hv] at q_1
 refine AW.c 2 Tru q_1 ?_
 refine AW.q fun K J0=>?_
 refine AW.c 1 Tru Tru ?_
 apply AW.y rfl
 refine AW.c 1 Tru Tru ?_
 exact AW.ret (hQ _ _ _ (RetP.z hwf Tru))
theorem Ke9 (i t:Int)(m:Ja1):Ctr Tryz.prog 22 [.one .nilp,.one (.int .i64 i),.one (.int .i64 t)] m (.agg [.int .i64 0,.int .i64 0,.int .i64 0,.int .i64 0,.int .i64 0,.int .i64 0,.int .i64 0,.int .i64 0,.int .i64 0,.int .i64 0,.int .i64 0,.int .i64 0]) m:=by
 refine Ctr.en Tryz.func22 [.cell 6 84] 34 fun hwf Q hQ=>?_
 refine AW.c 1 Tru Tru ?_
 refine AW.q fun K J0=>?_
 refine AW.c 1 Tru Tru ?_
 apply AW.y rfl
 refine AW.c 1 Tru Tru ?_
 exact AW.ret (hQ _ _ _ (RetP.z hwf Tru))
theorem Jo4 (s:SC)(R:RWs)(f:Int)(E:SE)(a b:VW)(p:Nat)(x y sm:Int)(m:Ja1)(hS:SetAt m p s R f E a b)(ho:x<0\/s.w<=x\/y<0\/s.h<=y):Ctr Tryz.prog 13 [.one (.ptr p 0 0),.one (.int .i64 x),.one (.int .i64 y),.one (.int .i64 sm)] m (.agg (snC snN)) m:=by
 refine Ctr.en Tryz.func13 [.cell 8 61] 232 fun hwf Q hQ=>?_
 have hps:=hS.hp
 have lps:=Jb2 hps
 have hG:=hS.g
 have hv:snC snN=[.int .i64 0,.int .i64 0,.int .i64 0,.int .i64 0,.int .i64 0,.int .i64 0,.int .i64 0,.int .i64 0,.int .i64 0,.int .i64 0,.int .i64 0,.int .i64 0,.int .i64 0,.int .i64 (-1),.int .i64 0]:=rfl
 rw [hv] at hQ
 have U1:=ca4 hps (Ja5 hps) @Ky7 (ca4 @Jf4 @Je7 @Jf3 (ca2 @Ja4 @Jy9))
 refine AW.c 1 U1 Tru ?_
 refine AW.q fun K J0=>?_
 refine AW.q fun K J1=>?_
 have hk1:x<0\/(¬x<0/\s.w<=x)\/(¬x<0/\¬s.w<=x/\y<0)\/(¬x<0/\¬s.w<=x/\¬y<0/\s.h<=y):=by omega
 rcases hk1 with e1|⟨e1,e2⟩|⟨e1,e2,e3⟩|⟨e1,e2,e3,e4⟩
 ·skip
  have U2:=ca2 U1 e1
  refine AW.g U2 Tru ?_
  apply J1
  apply AW.y rfl
  refine AW.c 1 U2 Tru ?_
  exact AW.ret (hQ _ _ _ (RetP.z hwf Tru))
 ·skip
  have U3:=ca3 U1 e1 e2
  refine AW.g U3 Tru ?_
  apply J1
  apply AW.y rfl
  refine AW.c 1 U3 Tru ?_
  exact AW.ret (hQ _ _ _ (RetP.z hwf Tru))
 ·skip
  have U4:=ca4 U1 e1 e2 e3
  refine AW.g U4 Tru ?_
  apply J1
  apply AW.y rfl
  refine AW.c 1 U4 Tru ?_
  exact AW.ret (hQ _ _ _ (RetP.z hwf Tru))
 skip
 have U5:=ca4 U1 e1 e2 (ca2 e3 e4)
 refine AW.g U5 Tru ?_
 apply J1
 apply AW.y rfl
 refine AW.c 1 U5 Tru ?_
 exact AW.ret (hQ _ _ _ (RetP.z hwf Tru))
theorem Kv2 (s:SC)(R:RWs)(f:Int)(E:SE)(a b:VW)(p:Nat)(m:Ja1)(hS:SetAt m p s R f E a b):Ctr Tryz.prog 24 [.one (.ptr p 0 0)] m (.agg (vwC a)) m:=by
 refine Ctr.en Tryz.func24 [.cell 2 90] 10 fun hwf Q hQ=>?_
 have hps:=hS.hp
 have lps:=Jb2 hps
 have hG:=hS.g
 have U6:=ca4 hps (Ja5 hps) @Ky7 (ca4 @Jf4 @Je7 @Jf3 (ca2 @Ja4 @Jy9))
 refine AW.c 1 U6 Tru ?_
 refine AW.q fun K J0=>?_
 refine AW.c 1 U6 Tru ?_
 apply AW.x rfl
 apply AW.z
 apply J0
 refine AW.c 1 U6 Tru ?_
 exact AW.ret (hQ _ _ _ (RetP.z hwf Tru))
theorem Kr9 (s:SC)(R:RWs)(f:Int)(E:SE)(a b:VW)(p:Nat)(i t:Int)(m:Ja1)(hS:SetAt m p s R f E a b)(ho:i<0\/(s.nx:Int)<=i):Ctr Tryz.prog 22 [.one (.ptr p 0 0),.one (.int .i64 i),.one (.int .i64 t)] m (.agg [.int .i64 0,.int .i64 0,.int .i64 0,.int .i64 0,.int .i64 0,.int .i64 0,.int .i64 0,.int .i64 0,.int .i64 0,.int .i64 0,.int .i64 0,.int .i64 0]) m:=by
 refine Ctr.en Tryz.func22 [.cell 6 84] 34 fun hwf Q hQ=>?_
 have hps:=hS.hp
 have lps:=Jb2 hps
 have hG:=hS.g
 obtain ⟨kx,ex,hx⟩:=hS.hR.hx
 have lx:=Jb2 hx
 have xl:(Jb6 s.nx (xC s)).length=s.nx*13:=Ja9 (w:=13) (F:=xC s) (fun _=>rfl) _
 have U7:=ca4 hps (Ja5 hps) @Ky7 (ca4 @Jf4 @Je7 @Jf3 (ca4 @Ja4 @Jy9 hx (ca2 (Ja5 hx) xl)))
 refine AW.c 1 U7 Tru ?_
 refine AW.q fun K J0=>?_
 refine AW.q fun K J1=>?_
 have hk1:i<0\/(¬i<0/\(s.nx:Int)<=i):=by omega
 rcases hk1 with e1|⟨e1,e2⟩
 ·skip
  have U8:=ca2 U7 e1
  refine AW.g U8 Tru ?_
  apply J1
  apply AW.y rfl
  refine AW.c 1 U8 Tru ?_
  exact AW.ret (hQ _ _ _ (RetP.z hwf Tru))
 skip
 have U9:=ca3 U7 e1 e2
 refine AW.g U9 Tru ?_
 apply J1
 apply AW.y rfl
 refine AW.c 1 U9 Tru ?_
 exact AW.ret (hQ _ _ _ (RetP.z hwf Tru))
theorem Vn8 (s:SC)(R:RWs)(f:Int)(E:SE)(a b:VW)(p:Nat)(i:Nat)(t:Int)(m:Ja1)(hS:SetAt m p s R f E a b)(hi:i<s.nx):Ctr Tryz.prog 22 [.one (.ptr p 0 0),.one (.int .i64 ((i:Int))),.one (.int .i64 t)] m (.agg (plC (atM (mvS s f i) t))) m:=by
 refine Ctr.en Tryz.func22 [.cell 6 84] 34 fun hwf Q hQ=>?_
 have hps:=hS.hp
 have lps:=Jb2 hps
 have hG:=hS.g
 obtain ⟨kx,ex,hx⟩:=hS.hR.hx
 have lx:=Jb2 hx
 have xl:(Jb6 s.nx (xC s)).length=s.nx*13:=Ja9 (w:=13) (F:=xC s) (fun _=>rfl) _
 obtain ⟨ks,es,hs⟩:=hS.hs
 have ls:=Jb2 hs
 have sc:(Jb6 s.nx (mF (mvS s f))).length=s.nx*24:=Ja9 (w:=24) (F:=mF (mvS s f)) (fun _=>rfl) _
 have e1:¬(i:Int)<0:=by omega
 have e2:¬(s.nx:Int)<=(i:Int):=by omega
 have s1:(0:Int)<=(i:Int):=by omega
 have s2:(i:Int)<(s.nx:Int):=by omega
 have s3:i*24+24<=s.nx*24:=by omega
 have s4:=Jc0 (w:=24) (F:=mF (mvS s f)) (fun _=>rfl) hi
 have s5:mF (mvS s f) i=[.int .i64 (mvS s f i).A.kind,.int .i64 (mvS s f i).A.paint,.int .i64 ((mvS s f i).A.P 0 0),.int .i64 ((mvS s f i).A.P 0 1),.int .i64 ((mvS s f i).A.P 0 2),.int .i64 ((mvS s f i).A.P 1 0),.int .i64 ((mvS s f i).A.P 1 1),.int .i64 ((mvS s f i).A.P 1 2),.int .i64 ((mvS s f i).A.P 2 0),.int .i64 ((mvS s f i).A.P 2 1),.int .i64 ((mvS s f i).A.P 2 2),.int .i64 (mvS s f i).A.r,.int .i64 (mvS s f i).B.kind,.int .i64 (mvS s f i).B.paint,.int .i64 ((mvS s f i).B.P 0 0),.int .i64 ((mvS s f i).B.P 0 1),.int .i64 ((mvS s f i).B.P 0 2),.int .i64 ((mvS s f i).B.P 1 0),.int .i64 ((mvS s f i).B.P 1 1),.int .i64 ((mvS s f i).B.P 1 2),.int .i64 ((mvS s f i).B.P 2 0),.int .i64 ((mvS s f i).B.P 2 1),.int .i64 ((mvS s f i).B.P 2 2),.int .i64 (mvS s f i).B.r]:=rfl
 have U10:=ca4 hps (Ja5 hps) @Ky7 (ca4 @Jf4 @Je7 @Jf3 (ca4 @Ja4 @Jy9 hx (ca4 (Ja5 hx) xl hs (ca4 (Ja5 hs) sc e1 (ca4 e2 s1 s2 (ca4 s3 s4 s5 hi))))))
 refine AW.c 1 U10 Tru ?_
 refine AW.q fun K J0=>?_
 refine AW.c 1 U10 Tru ?_
 apply AW.x rfl
 apply AW.z
 apply J0
 refine AW.c 1 U10 (at_c (mvS s f i) t) ?_
 exact AW.ret (hQ _ _ _ (RetP.z hwf Tru))
theorem Vb5 (s:SC)(R:RWs)(f:Int)(E:SE)(a b:VW)(p:Nat)(x y:Int)(m:Ja1)(hS:SetAt m p s R f E a b)(hx0:0<=x)(hx1:x<s.w)(hy0:0<=y)(hy1:y<s.h):Ctr Tryz.prog 15 [.one (.ptr p 0 0),.one (.int .i64 x),.one (.int .i64 y)] m (.agg (snC (Vi3 s f a b x y))) m:=by
 refine Ctr.en Tryz.func15 [.cell 6 61] 47 fun hwf Q hQ=>?_
 have hps:=hS.hp
 have lps:=Jb2 hps
 have hG:=hS.g
 obtain ⟨T0,hT0⟩:∃ T,Jh0 s f a b x y 0=T:=⟨_,rfl⟩
 have hgm:=hG.sm
 obtain ⟨N,hN⟩:∃ N:Nat,N=s.sm.toNat:=⟨_,rfl⟩
 have hNs:s.sm=(N:Int):=by omega
 have hv:snC (Vi3 s f a b x y)=[.int .i64 (Jk5 (Kf7 s f a b x y (N - 1)) s.sm 0),.int .i64 (Jk5 (Kf7 s f a b x y (N - 1)) s.sm 1),.int .i64 (Jk5 (Kf7 s f a b x y (N - 1)) s.sm 2),.int .i64 (T0.dep),.int .i64 (T0.no 0),.int .i64 (T0.no 1),.int .i64 (T0.no 2),.int .i64 (T0.po 0),.int .i64 (T0.po 1),.int .i64 (T0.po 2),.int .i64 (T0.ba 0),.int .i64 (T0.ba 1),.int .i64 (T0.ba 2),.int .i64 (T0.sh),.int .i64 (T0.pt)]:=by unfold Vi3;rw [hT0,<-hN];rfl
 rw [hv] at hQ
 have q_2:=fun M hS=>Kt0 s R f E a b p x y 0 M hS hx0 hx1 hy0 hy1
 rw [hT0,show snC T0=[.int .i64 (T0.li 0),.int .i64 (T0.li 1),.int .i64 (T0.li 2),.int .i64 (T0.dep),.int .i64 (T0.no 0),.int .i64 (T0.no 1),.int .i64 (T0.no 2),.int .i64 (T0.po 0),.int .i64 (T0.po 1),.int .i64 (T0.po 2),.int .i64 (T0.ba 0),.int .i64 (T0.ba 1),.int .i64 (T0.ba 2),.int .i64 (T0.sh),.int .i64 (T0.pt)] from rfl] at q_2
 have U11:=ca4 hps (Ja5 hps) @Ky7 (ca4 @Jf4 @Je7 @Jf3 (ca2 @Ja4 @Jy9))
 refine AW.c 2 U11 (q_2 _ (hS.app _)) ?_
 refine AW.q fun K J0=>?_
 refine AW.c 1 U11 Tru ?_
 apply AW.x rfl
 apply AW.z
 apply J0
 refine AW.c 1 U11 Tru ?_
 refine AW.q fun K J0=>?_
 refine AW.c 1 U11 Tru ?_
 apply AW.b
 refine AW.loopK [0,1,2,6,7,8] (fun i=>i+1<=N) (fun i=>[(9,.one (.int .i64 ((i:Int)+1)))]) (fun i=>[(m.length+2,⟨.fix,42,0,0,[.int .i64 (Kf7 s f a b x y i 0),.int .i64 (Kf7 s f a b x y i 1),.int .i64 (Kf7 s f a b x y i 2)]⟩)]) (fun i=>N - i) 0 (by omega) ?_ ?_ fun i hi3=>?_
 · first|rfl|(simp only [KS,simprocAttr,Kf7,hT0,Int.natCast_zero,Int.zero_add,Int.natCast_one]<;>repeat' (first|rfl|apply And.intro))
 · (simp only [Ja2,push_cast,simprocAttr,Kf7,hT0])<;>rfl
 try simp only [Jb1,Ja2,push_cast,simprocAttr,U11]
 refine AW.q fun K J1=>?_
 refine AW.c 1 U11 Tru ?_
 refine AW.cond rfl (fun h26=>?_) (fun h26=>?_)
 ·have hlt:i+1<N:=by have:=of_decide_eq_true h26;omega
  obtain ⟨T1,hT1⟩:∃ T,Jh0 s f a b x y ((i+1:Nat):Int)=T:=⟨_,rfl⟩
  have hT2:Jh0 s f a b x y ((i:Int)+1)=T1:=by rw [<-hT1];congr 1
  have hst:Kf7 s f a b x y (i+1)=Jd9 (Kf7 s f a b x y i) T1.li:=by rw [<-hT1];rfl
  have hwi:IntKind.i64.wrap ((i:Int)+1+1)=(i:Int)+1+1:=wi (by omega)
  have hsc:=Kj1 T1
  apply AW.z
  apply J1
  refine AW.q fun K J1=>?_
  apply AW.b
  have q_3:=fun M hS=>Kt0 s R f E a b p x y ((i:Int)+1) M hS hx0 hx1 hy0 hy1
  rw [hT2,hsc] at q_3
  have U12:=ca3 U11 hsc hT2
  refine AW.e [.rd 0,.val,.val,.val,.val,.ext,.val,.ext,.wr] fol U12 (ca2 (q_3 _ (hS.app _)) (Qm6 (Kf7 s f a b x y i) T1.li)) ?_
  apply Ja8
  apply J1
  refine AW.g U12 Tru ?_
  apply Jc2
  refine ⟨i+1,by omega,by omega,?_⟩
  try simp only [Jb1,Ja2,push_cast,simprocAttr,U12,hwi,hst,Int.natCast_add,Int.natCast_one]
  exact Weak.to (extra:=_) (by simp only [KS,simprocAttr,hwi,hst,Int.natCast_add,Int.natCast_one]) (by first|rfl|(simp only [List.append_assoc,List.cons_append,List.nil_append];rfl)) (by first|rfl|(simp [AV.below,CV.below];done)|(simp [AV.below,CV.below];omega)) (by exact MWf.app (hwf.grow (by simp)) (Ja0 rfl (Ja0 rfl (Ja0 rfl Jb7))))
 have hin:i=N - 1:=by have:=of_decide_eq_false h26;omega
 rw [hin]
 apply AW.v
 apply Jb0
 apply Jb0
 apply Ja6
 apply J0
 refine AW.d [.rd 0,.val,.val,.val,.val,.val,.rd 0,.ext,.val,.wr] fol U11 (Xh5 (Kf7 s f a b x y (N - 1)) s.sm) ?_
 refine AW.c 1 U11 Tru ?_
 exact AW.ret (hQ _ _ _ (RetP.z hwf Tru))
theorem Vm7 (s:SC)(R:RWs)(f x y:Int)(m:Ja1)(hR:ScR 138 143 285 146 150 m s R)(hG:GoS s)(hT:∀ i,i<s.nt->TrS s i)(hJ:∀ i,i<s.nj->JoR s i)(hX:∀ i,i<s.nx->-1<=s.xj i/\s.xj i<(s.nj:Int))(hE:s.ey<(s.nt:Int))(hL:s.lk<(s.nt:Int))(hf:0<=f/\f<=1000000)(hx0:0<=x)(hx1:x<s.w)(hy0:0<=y)(hy1:y<s.h):Ctr Tryz.prog 16 [.agg (scC s R),.one (.int .i64 f),.one (.int .i64 x),.one (.int .i64 y)] m (.agg (snC (Vi3 s f (Jj7 s (f*65536)) (Jj7 s (f*65536+s.sh)) x y))) m:=by
 refine Ctr.en Tryz.func16 [.cell 8 56] 42 fun hwf Q hQ=>?_
 obtain ⟨a,ha⟩:∃ a,Jj7 s (f*65536)=a:=⟨_,rfl⟩
 obtain ⟨b,hb⟩:∃ b,Jj7 s (f*65536+s.sh)=b:=⟨_,rfl⟩
 rw [ha,hb] at hQ
 obtain ⟨T0,hT0⟩:∃ T,Jh0 s f a b x y 0=T:=⟨_,rfl⟩
 have hgm:=hG.sm
 obtain ⟨N,hN⟩:∃ N:Nat,N=s.sm.toNat:=⟨_,rfl⟩
 have hNs:s.sm=(N:Int):=by omega
 have hv:snC (Vi3 s f a b x y)=[.int .i64 (Jk5 (Kf7 s f a b x y (N - 1)) s.sm 0),.int .i64 (Jk5 (Kf7 s f a b x y (N - 1)) s.sm 1),.int .i64 (Jk5 (Kf7 s f a b x y (N - 1)) s.sm 2),.int .i64 (T0.dep),.int .i64 (T0.no 0),.int .i64 (T0.no 1),.int .i64 (T0.no 2),.int .i64 (T0.po 0),.int .i64 (T0.po 1),.int .i64 (T0.po 2),.int .i64 (T0.ba 0),.int .i64 (T0.ba 1),.int .i64 (T0.ba 2),.int .i64 (T0.sh),.int .i64 (T0.pt)]:=by unfold Vi3;rw [hT0,<-hN];rfl
 rw [hv] at hQ
 have q_4:=fun M hR=>Qi8 s R f x y 0 M hR hG hT hJ hX hE hL hf hx0 hx1 hy0 hy1
 rw [ha,hb,hT0,show snC T0=[.int .i64 (T0.li 0),.int .i64 (T0.li 1),.int .i64 (T0.li 2),.int .i64 (T0.dep),.int .i64 (T0.no 0),.int .i64 (T0.no 1),.int .i64 (T0.no 2),.int .i64 (T0.po 0),.int .i64 (T0.po 1),.int .i64 (T0.po 2),.int .i64 (T0.ba 0),.int .i64 (T0.ba 1),.int .i64 (T0.ba 2),.int .i64 (T0.sh),.int .i64 (T0.pt)] from rfl] at q_4
 have U13:=ca4 @Jf4 @Je7 @Jf3 @Ja4
 refine AW.c 3 U13 (q_4 _ (hR.app _)) ?_
 refine AW.q fun K J0=>?_
 refine AW.c 1 U13 Tru ?_
 apply AW.b
 refine AW.loopK [1,2,3,4,8,9,10] (fun i=>i+1<=N) (fun i=>[(11,.one (.int .i64 ((i:Int)+1)))]) (fun i=>[(m.length+3,⟨.fix,24,0,0,[.int .i64 (Kf7 s f a b x y i 0),.int .i64 (Kf7 s f a b x y i 1),.int .i64 (Kf7 s f a b x y i 2)]⟩)]) (fun i=>N - i) 0 (by omega) ?_ ?_ fun i hi2=>?_
 · first|rfl|(simp only [KS,simprocAttr,Kf7,hT0,Int.natCast_zero,Int.zero_add,Int.natCast_one]<;>repeat' (first|rfl|apply And.intro))
 · (simp only [Ja2,push_cast,simprocAttr,Kf7,hT0])<;>rfl
 try simp only [Jb1,Ja2,push_cast,simprocAttr,U13]
 refine AW.q fun K J1=>?_
 refine AW.c 1 U13 Tru ?_
 refine AW.cond rfl (fun h23=>?_) (fun h23=>?_)
 ·have hlt:i+1<N:=by have:=of_decide_eq_true h23;omega
  obtain ⟨T1,hT1⟩:∃ T,Jh0 s f a b x y ((i+1:Nat):Int)=T:=⟨_,rfl⟩
  have hT2:Jh0 s f a b x y ((i:Int)+1)=T1:=by rw [<-hT1];congr 1
  have hst:Kf7 s f a b x y (i+1)=Jd9 (Kf7 s f a b x y i) T1.li:=by rw [<-hT1];rfl
  have hwi:IntKind.i64.wrap ((i:Int)+1+1)=(i:Int)+1+1:=wi (by omega)
  have hsc:=Kj1 T1
  apply AW.z
  apply J1
  refine AW.q fun K J1=>?_
  apply AW.b
  have q_5:=fun M hR=>Qi8 s R f x y ((i:Int)+1) M hR hG hT hJ hX hE hL hf hx0 hx1 hy0 hy1
  rw [ha,hb,hT2,hsc] at q_5
  have U14:=ca3 U13 hsc hT2
  refine AW.e [.rd 0,.rd 0,.val,.val,.val,.val,.ext,.val,.ext,.wr] fol U14 (ca2 (q_5 _ (hR.app _)) (Ku5 (Kf7 s f a b x y i) T1.li)) ?_
  apply Ja8
  apply J1
  refine AW.g U14 Tru ?_
  apply Jc2
  refine ⟨i+1,by omega,by omega,?_⟩
  try simp only [Jb1,Ja2,push_cast,simprocAttr,U14,hwi,hst,Int.natCast_add,Int.natCast_one]
  exact Weak.to (extra:=_) (by simp only [KS,simprocAttr,hwi,hst,Int.natCast_add,Int.natCast_one]) (by first|rfl|(simp only [List.append_assoc,List.cons_append,List.nil_append];rfl)) (by first|rfl|(simp [AV.below,CV.below];done)|(simp [AV.below,CV.below];omega)) (by exact MWf.app (hwf.grow (by simp)) (Ja0 (hR.bel _ (by simp)) (Ja0 rfl (Ja0 rfl (Ja0 rfl Jb7)))))
 have hin:i=N - 1:=by have:=of_decide_eq_false h23;omega
 rw [hin]
 apply AW.v
 apply Jb0
 apply Jb0
 apply Ja6
 apply J0
 refine AW.c 2 U13 (Vn2 (Kf7 s f a b x y (N - 1)) s.sm) ?_
 exact AW.ret (hQ _ _ _ (RetP.z hwf Tru))
theorem Kw5 (a:V)(m:Ja1):Ctr Tryz.prog 46 [.agg (c3C a)] m (.agg (c3C a)) m:=by
 refine Ctr.en Tryz.func46 [.cell 2 54] 10 fun hwf Q hQ=>?_
 refine AW.c 2 @Ja4 Tru ?_
 exact AW.ret (hQ _ _ _ (RetP.z hwf Tru))
theorem Xu2 (a:V)(m:Ja1):Ctr Tryz.prog 45 [.agg (c3C a)] m (.agg (c3C a)) m:=by
 refine Ctr.en Tryz.func45 [.cell 2 24] 10 fun hwf Q hQ=>?_
 refine AW.c 2 @Ja4 Tru ?_
 exact AW.ret (hQ _ _ _ (RetP.z hwf Tru))
theorem snC_e (s:SN):snC s=(c3C s.li++(.int .i64 s.dep::(c3C s.no++(c3C s.po++(c3C s.ba++[.int .i64 s.sh,.int .i64 s.pt]))))):=rfl
theorem Vf0 (t:SN)(m:Ja1):Ctr Tryz.prog 12 [.agg (snC t)] m (.agg (snC t)) m:=by
 refine Ctr.en Tryz.func12 [.cell 2 56] 22 fun hwf Q hQ=>?_
 have hv:=Kj1 t
 rw [hv] at hQ
 have U1:=ca2 @snC_e @Ja4
 refine AW.c 1 U1 Tru ?_
 refine AW.d [.val,.rd 0,.ext,.val,.rd 0,.val,.rd 0,.ext,.val,.rd 0,.ext,.val,.rd 0,.ext,.val,.rd 0,.val,.rd 0,.val,.wr] fol U1 (ca4 (Xu2 t.li) (Kw5 t.no) (Kw5 t.po) (Xu2 t.ba)) ?_
 exact AW.ret (hQ _ _ _ (RetP.z hwf Tru))
theorem Qs7 (P:PL)(m:Ja1):Ctr Tryz.prog 21 [.agg (plC P)] m (.agg (plC P)) m:=by
 refine Ctr.en Tryz.func21 [.cell 2 75] 23 fun hwf Q hQ=>?_
 have hv:=Jg4 P
 rw [hv] at hQ
 have U2:=ca2 @Jq4 @Ja4
 refine AW.c 1 U2 Tru ?_
 refine AW.d [.val,.rd 0,.val,.rd 0,.val,.val,.rd 0,.ext,.val,.val,.rd 0,.ext,.val,.val,.rd 0,.ext,.val,.val,.rd 0,.val,.wr] fol U2 (ca3 (Kw5 (P.P 0)) (Kw5 (P.P 1)) (Kw5 (P.P 2))) ?_
 exact AW.ret (hQ _ _ _ (RetP.z hwf Tru))
theorem Xi3 (a:VW)(m:Ja1):Ctr Tryz.prog 23 [.agg (vwC a)] m (.agg (vwC a)) m:=by
 refine Ctr.en Tryz.func23 [.cell 2 87] 22 fun hwf Q hQ=>?_
 have hv:=Vu8 a
 rw [hv] at hQ
 have U3:=ca2 @Jy9 @Ja4
 refine AW.c 1 U3 Tru ?_
 refine AW.d [.val,.rd 0,.ext,.val,.rd 0,.ext,.val,.rd 0,.ext,.val,.rd 0,.ext,.val,.rd 0,.val,.rd 0,.val,.rd 0,.val,.wr] fol U3 (ca4 (Kw5 a.e) (Kw5 a.f) (Kw5 a.r) (Kw5 a.u)) ?_
 exact AW.ret (hQ _ _ _ (RetP.z hwf Tru))
def SdB (s:SC):Bool:=decide (SmR s)&&((Jh9 s).1 ==0)
structure LtR (s:SC):Prop where
 sm:SmR s
 ck:(Jh9 s).1=0
 px:s.w*s.h<=16
 ns:s.sm<=2
 dp:s.dp<=3
 nx:(s.nx:Int)<=20
 fr:s.fr<=4
theorem Jz8 (s:SC)(R:RWs)(m:Ja1)(hR:ScR 138 143 285 146 150 m s R):Ctr Tryz.prog 32 [.agg (scC s R)] m (.one (.bool (SdB s))) m:=by
 refine Ctr.en Tryz.func32 [.tmp 2] 16 fun hwf Q hQ=>?_
 obtain ⟨zz,hzz⟩:∃ z,SdB s=z:=⟨_,rfl⟩
 rw [hzz] at hQ
 unfold SdB at hzz
 have U4:=ca4 @Jf4 @Je7 @Jf3 @Ja4
 refine AW.c 2 U4 (Qj3 s R _ (hR.app _)) ?_
 refine AW.q fun K J0=>?_
 by_cases hs:SmR s
 ·have e1:decide (SmR s)=true:=decide_eq_true hs
  rw [e1,Bool.true_and] at hzz
  have U5:=ca3 U4 e1 hzz
  refine AW.g U5 (Qq4 s R _ (hR.app _)) ?_
  apply J0
  exact AW.ret (hQ _ _ _ (RetP.z hwf U5))
 have e1:decide (SmR s)=false:=decide_eq_false hs
 rw [e1,Bool.false_and] at hzz
 subst hzz
 have U6:=ca2 U4 e1
 refine AW.g U6 (Qq4 s R _ (hR.app _)) ?_
 apply J0
 exact AW.ret (hQ _ _ _ (RetP.z hwf U6))
theorem Xs8 (s:SC)(R:RWs)(m:Ja1)(hR:ScR 138 143 285 146 150 m s R)(hL:¬LtR s):Ctr Tryz.prog 8 [.agg (scC s R)] m (.one (.bool false)) m:=by
 refine Ctr.en Tryz.func8 [.tmp 2] 39 fun hwf Q hQ=>?_
 have hwh:SdB s=true->IntKind.i64.wrap (s.w*s.h)=s.w*s.h:=fun q=>by
   have q1:(Jh9 s).1=0:=by unfold SdB at q;exact eq_of_beq (Bool.and_eq_true_iff.1 q).2
   have hg:=Qb6 (Js2 q1).1
   have a1:=hg.w
   have a2:=hg.h
   have m1:0<=s.w*s.h:=Int.mul_nonneg (by omega) (by omega)
   have m2:s.w*s.h<=64*64:=Int.mul_le_mul (by omega) (by omega) (by omega) (by omega)
   exact wi (by omega)
 have hk:(¬(SdB s=true))\/(SdB s=true/\¬(s.w*s.h<=16))\/(SdB s=true/\s.w*s.h<=16/\¬(s.sm<=2))\/(SdB s=true/\s.w*s.h<=16/\s.sm<=2/\¬(s.dp<=3))\/(SdB s=true/\s.w*s.h<=16/\s.sm<=2/\s.dp<=3/\¬((s.nx:Int)<=20))\/(SdB s=true/\s.w*s.h<=16/\s.sm<=2/\s.dp<=3/\(s.nx:Int)<=20/\¬(s.fr<=4)):=by
   by_cases q0:SdB s=true
   · have q1:SmR s:=by unfold SdB at q0;exact of_decide_eq_true (Bool.and_eq_true_iff.1 q0).1
     have q2:(Jh9 s).1=0:=by unfold SdB at q0;exact eq_of_beq (Bool.and_eq_true_iff.1 q0).2
     by_cases q3:s.w*s.h<=16
     · by_cases q4:s.sm<=2
       · by_cases q5:s.dp<=3
         · by_cases q6:(s.nx:Int)<=20
           · by_cases q7:s.fr<=4
             · exact (hL ⟨q1,q2,q3,q4,q5,q6,q7⟩).elim
             exact .inr (.inr (.inr (.inr (.inr ⟨q0,q3,q4,q5,q6,q7⟩))))
           exact .inr (.inr (.inr (.inr (.inl ⟨q0,q3,q4,q5,q6⟩))))
         exact .inr (.inr (.inr (.inl ⟨q0,q3,q4,q5⟩)))
       exact .inr (.inr (.inl ⟨q0,q3,q4⟩))
     exact .inr (.inl ⟨q0,q3⟩)
   exact .inl q0
 have U7:=ca4 @Jf4 @Je7 @Jf3 @Ja4
 refine AW.c 1 U7 Tru ?_
 refine AW.q fun K J0=>?_
 rcases hk with g0|⟨g0,g1⟩|⟨g0,g1,g2⟩|⟨g0,g1,g2,g3⟩|⟨g0,g1,g2,g3,g4⟩|⟨g0,g1,g2,g3,g4,g5⟩
 ·have e0:SdB s=false:=by simpa using g0
  have U8:=ca2 U7 e0
  refine AW.g U8 (Jz8 s R _ (hR.app _)) ?_
  apply J0
  exact AW.ret (hQ _ _ _ (RetP.z hwf U8))
 ·have w1:IntKind.i64.wrap (s.w*s.h)=s.w*s.h:=hwh g0
  have U9:=ca4 U7 g0 w1 g1
  refine AW.g U9 (Jz8 s R _ (hR.app _)) ?_
  apply J0
  exact AW.ret (hQ _ _ _ (RetP.z hwf U9))
 ·have w1:IntKind.i64.wrap (s.w*s.h)=s.w*s.h:=hwh g0
  have U10:=ca4 U7 g0 w1 (ca2 g1 g2)
  refine AW.g U10 (Jz8 s R _ (hR.app _)) ?_
  apply J0
  exact AW.ret (hQ _ _ _ (RetP.z hwf U10))
 ·have w1:IntKind.i64.wrap (s.w*s.h)=s.w*s.h:=hwh g0
  have U11:=ca4 U7 g0 w1 (ca3 g1 g2 g3)
  refine AW.g U11 (Jz8 s R _ (hR.app _)) ?_
  apply J0
  exact AW.ret (hQ _ _ _ (RetP.z hwf U11))
 ·have w1:IntKind.i64.wrap (s.w*s.h)=s.w*s.h:=hwh g0
  have U12:=ca4 U7 g0 w1 (ca4 g1 g2 g3 g4)
  refine AW.g U12 (Jz8 s R _ (hR.app _)) ?_
  apply J0
  exact AW.ret (hQ _ _ _ (RetP.z hwf U12))
 have w1:IntKind.i64.wrap (s.w*s.h)=s.w*s.h:=hwh g0
 have U13:=ca4 U7 g0 w1 (ca4 g1 g2 g3 (ca2 g4 g5))
 refine AW.g U13 (Jz8 s R _ (hR.app _)) ?_
 apply J0
 exact AW.ret (hQ _ _ _ (RetP.z hwf U13))
theorem Xs7 (s:SC)(R:RWs)(m:Ja1)(hR:ScR 138 143 285 146 150 m s R)(hL:LtR s):Ctr Tryz.prog 8 [.agg (scC s R)] m (.one (.bool true)) m:=by
 refine Ctr.en Tryz.func8 [.tmp 2] 39 fun hwf Q hQ=>?_
 have hwh:SdB s=true->IntKind.i64.wrap (s.w*s.h)=s.w*s.h:=fun q=>by
   have q1:(Jh9 s).1=0:=by unfold SdB at q;exact eq_of_beq (Bool.and_eq_true_iff.1 q).2
   have hg:=Qb6 (Js2 q1).1
   have a1:=hg.w
   have a2:=hg.h
   have m1:0<=s.w*s.h:=Int.mul_nonneg (by omega) (by omega)
   have m2:s.w*s.h<=64*64:=Int.mul_le_mul (by omega) (by omega) (by omega) (by omega)
   exact wi (by omega)
 have g0:SdB s=true:=by unfold SdB;rw [decide_eq_true hL.sm,hL.ck];rfl
 have w1:=hwh g0
 have g1:=hL.px
 have g2:=hL.ns
 have g3:=hL.dp
 have g4:=hL.nx
 have g5:=hL.fr
 have U14:=ca4 @Jf4 @Je7 @Jf3 (ca4 @Ja4 g0 w1 (ca4 g1 g2 g3 (ca2 g4 g5)))
 refine AW.c 2 U14 (Jz8 s R _ (hR.app _)) ?_
 exact AW.ret (hQ _ _ _ (RetP.z hwf U14))
theorem Vy9 (s:SC)(R:RWs)(m:Ja1):(toB s R m).length=8+3*s.nt:=by
 simp only [toB,List.length_cons,Jn0];omega
theorem Kq8 {m:Ja1}{s:SC}{R:RWs}(hR:ScR 138 143 285 146 150 m s R):ScR 140 119 223 148 155 (m++toB s R m) s (toR s m.length):=by
 have hq:∀ k,(m++toB s R m)[m.length+k]?=(toB s R m)[k]?:=fun k=>by rw [List.getElem?_append_right (by omega)];congr 1;omega
 refine ⟨⟨.grow,5,?_⟩,⟨.grow,2,?_⟩,fun i hi=>⟨.grow,4,?_⟩,⟨.grow,4,?_⟩,⟨.grow,13,?_⟩,hR.np,hR.nt,hR.nj,hR.nx,hR.nk⟩
 ·show (m++toB s R m)[m.length+4]?=_;rw [hq];rfl
 ·show (m++toB s R m)[m.length+5]?=_;rw [hq];rfl
 ·show (m++toB s R m)[m.length+(3*i+9)]?=_
  rw [hq]
  show (tkB s R m.length s.nt)[3*i+1]?=_
  exact Qw5 s R m.length hi
 ·show (m++toB s R m)[m.length+6]?=_;rw [hq];rfl
 show (m++toB s R m)[m.length+7]?=_;rw [hq];rfl
theorem Vz2 (m:Ja1):Ctr Tryz.prog 34 [.agg [.int .i64 0,.int .i64 0,.int .i64 0]] m (.agg [.int .i64 0,.sl m.length 0 0 1]) (m++[⟨.grow,223,0,4,[.int .i64 0,.int .i64 0,.int .i64 0,.int .i64 0]⟩]):=by
 refine Ctr.en Tryz.func34 [.cell 2 119] 7 fun hwf Q hQ=>?_
 have hlt0:∀ k,¬m.length+k<m.length:=fun k=>by omega
 refine AW.c 2 Tru Tru ?_
 refine AW.ret ?_
 refine hQ _ _ _ ?_
 refine RetP.pick [(m.length+2,0)] (by first|exact Or.inr rfl|exact Or.inl rfl) ?_ ?_ ?_ hwf ?_
 · simp only [Jd0,Ja7,Jb5,AV.tv,push_cast,simprocAttr]
   simp [Kq2,Ku7,Ke8,Jw2,Ji8,hlt0]
 · simp only [Jp9,push_cast,simprocAttr]
 · simp [Jd1]
 exact Qg9 rfl
def bS:SC:=⟨1,1,1,1,1,0,0,fun _=>7,0,0,65536,0,1,0,0,fun _=>0,fun _ _=>0,fun _=>0,fun _=>0,fun _=>1,fun _ _=>0,fun _ _ _=>0,fun _=>0,fun _=>0,fun _=>0,fun _=>0,fun _=>0,fun _=>0,fun _=>0,fun _ _ _=>0,fun _=>0⟩
def bR (L:Nat):RWs:=⟨L+3,0,L+1,0,L+4,0,L+5,0,fun _=>L,fun _=>0⟩
theorem Xx7:(Jh9 bS).1=0:=by decide
theorem Vt9 (f:Int)(a b:VW)(x y sm:Int):(∀ j,(Jh0 bS f a b x y sm).li j=7)/\(Jh0 bS f a b x y sm).sh=-1:=by
 unfold Jh0
 have h:=@Jj1 (Jd3 bS f) (Qk4 bS f x y sm) 0 ⟨Ky6 ((Qk4 bS f x y sm).u 2),fun _=>65536,true,Vi2 (Xg1 a b ((Qk4 bS f x y sm).u 2)) x y ((Qk4 bS f x y sm).u 0) ((Qk4 bS f x y sm).u 1) ((Qk4 bS f x y sm).u 2)⟩ 1 _ (by decide) (Kj0 rfl)
 rw [show bS.dp.toNat=1 - 0 from rfl,h]
 refine ⟨fun j=>?_,rfl⟩
 show Jd6 0 (Je0 65536 7)=7
 decide
theorem Xx6 (f:Int)(a b:VW)(x y:Int):(∀ j,(Vi3 bS f a b x y).li j=7)/\(Vi3 bS f a b x y).sh=-1:=by
 obtain ⟨h1,h2⟩:=Vt9 f a b x y 0
 refine ⟨fun j=>?_,h2⟩
 show (if (1:Int)<1 then (0:Int) else Jh2 ((Jh0 bS f a b x y 0).li j) (ofI 1))=7
 rw [h1];decide
theorem Xx5 {m:Ja1}(a:Blk)(L:Ja1):ScR 140 119 223 148 155 (m++(⟨.grow,223,0,4,[.int .i64 0,.int .i64 0,.int .i64 0,.int .i64 0]⟩::⟨.grow,119,0,2,[.int .i64 0,.sl m.length 0 0 1]⟩::a::⟨.grow,140,0,5,[]⟩::⟨.grow,148,0,4,[]⟩::⟨.grow,155,0,13,[]⟩::L)) bS (bR m.length):=by
 refine ⟨⟨.grow,5,?_⟩,⟨.grow,2,?_⟩,fun i hi=>⟨.grow,4,?_⟩,⟨.grow,4,?_⟩,⟨.grow,13,?_⟩,by decide,by decide,by decide,by decide,fun _ _=>(by show (1:Nat)<=1000000000000;decide)⟩
 ·show (m++_)[m.length+3]?=_;rw [Jg1];rfl
 ·show (m++_)[m.length+1]?=_;rw [Jg1];rfl
 ·show (m++_)[m.length]?=_;rw [Jn4];rfl
 ·show (m++_)[m.length+4]?=_;rw [Jg1];rfl
 show (m++_)[m.length+5]?=_;rw [Jg1];rfl
theorem Ji5 (m:Ja1):Ctr Tryz.prog 9 [] m (.one (.bool true)) m:=by
 refine Ctr.en Tryz.func9 [.tmp 0] 32 fun hwf Q hQ=>?_
 obtain ⟨L9,p,E,hC,hS⟩:=Ku8 bS (bR m.length) 0 (m++(⟨.grow,223,0,4,[.int .i64 0,.int .i64 0,.int .i64 0,.int .i64 0]⟩::⟨.grow,119,0,2,[.int .i64 0,.sl m.length 0 0 1]⟩::(⟨.fix,52,0,0,scC bS (bR m.length)⟩:Blk)::⟨.grow,140,0,5,[]⟩::⟨.grow,148,0,4,[]⟩::⟨.grow,155,0,13,[]⟩::[])) (Xx5 (m:=m) (⟨.fix,52,0,0,scC bS (bR m.length)⟩:Blk) []) Xx7 (by decide) (by decide)
 obtain ⟨A,hA⟩:∃ A,Jj7 bS (0*65536)=A:=⟨_,rfl⟩
 obtain ⟨B,hB⟩:∃ B,Jj7 bS (0*65536+bS.sh)=B:=⟨_,rfl⟩
 rw [hA,hB] at hS
 obtain ⟨h1,h2⟩:=Xx6 0 A B 0 0
 obtain ⟨X,hX⟩:∃ X,Vi3 bS 0 A B 0 0=X:=⟨_,rfl⟩
 rw [hX] at h1 h2
 have hXc:=Kj1 X
 rw [h1,h1,h1,h2] at hXc
 refine AW.c 2 @Ja4 (ca2 (Kw2 7) Vz2) ?_
 refine AW.nilCell 140 5 (m.length+2) 13 (by simp only [push_cast,simprocAttr];first|done|rfl) (by intro e;cases e) rfl ?_
 try simp only [push_cast,simprocAttr]
 refine AW.nilCell 148 4 (m.length+2) 15 (by simp only [push_cast,simprocAttr];first|done|rfl) (by intro e;cases e) rfl ?_
 try simp only [push_cast,simprocAttr]
 refine AW.nilCell 155 13 (m.length+2) 16 (by simp only [push_cast,simprocAttr];first|done|rfl) (by intro e;cases e) rfl ?_
 try simp only [push_cast,simprocAttr]
 have q_1:=Vb5 bS (bR m.length) 0 E A B p 0 0 _ hS (by decide) (by decide) (by decide) (by decide)
 rw [hX,hXc] at q_1
 simp only [List.append_assoc,List.cons_append,List.nil_append] at q_1
 refine AW.c 2 @Ja4 (ca2 hC q_1) ?_
 refine AW.d [.val,.val,.val,.val,.rd 0,.ext,.val,.val,.val,.val,.rd 1,.val,.val,.val] fol @Ja4 (Kw2 7) ?_
 exact AW.ret (hQ _ _ _ (RetP.z hwf @Ja4))
theorem Qa6 (s:SC)(R:RWs)(fm x y:Int)(m:Ja1)(hR:ScR 138 143 285 146 150 m s R)(hL:¬LtR s):Ctr Tryz.prog 4 [.agg (scC s R),.one (.int .i64 fm),.one (.int .i64 x),.one (.int .i64 y)] m (.one (.bool true)) m:=by
 refine Ctr.en Tryz.func4 [.tmp 8] 64 fun hwf Q hQ=>?_
 have U5:=ca4 @Jf4 @Je7 @Jf3 @Ja4
 refine AW.c 1 U5 Tru ?_
 refine AW.q fun K J0=>?_
 refine AW.c 1 U5 (Xs8 s R _ (hR.app _) hL) ?_
 apply AW.y rfl
 refine AW.c 1 U5 Ji5 ?_
 exact AW.ret (hQ _ _ _ (RetP.z hwf U5))
theorem Qa5 (s:SC)(R:RWs)(fm x y:Int)(m:Ja1)(hR:ScR 138 143 285 146 150 m s R)(hL:LtR s):Ctr Tryz.prog 4 [.agg (scC s R),.one (.int .i64 fm),.one (.int .i64 x),.one (.int .i64 y)] m (.one (.bool true)) m:=by
 refine Ctr.en Tryz.func4 [.tmp 8] 64 fun hwf Q hQ=>?_
 obtain ⟨hG,hC0⟩:=Js2 hL.ck
 have hg:=Qb6 hG
 have hgw:=hg.w
 have hgh:=hg.h
 have hgf:=hg.fr
 have hsh:=hg.sh
 have hT:=hG.tr
 have hJ:=hG.jo
 have hX:=hG.xj
 have hE:=hG.ey
 have hLK:=hG.lk
 obtain ⟨Vf,hVf⟩:∃ z,IntKind.u64.wrap fm=z:=⟨_,rfl⟩
 have hVbf:0<=Vf/\Vf<18446744073709551616:=by rw [<-hVf,IntKind.wrap_u64];omega
 obtain ⟨Ff,hFf⟩:∃ z,Vf%s.fr=z:=⟨_,rfl⟩
 have m1f:=Int.emod_nonneg Vf (show s.fr≠0 by omega)
 have m2f:=Int.emod_lt_of_pos Vf (show 0<s.fr by omega)
 rw [hFf] at m1f m2f
 have q4f:IntKind.u64.wrap s.fr=s.fr:=by rw [IntKind.wrap_u64];omega
 have q5f:Vf.tmod s.fr=Ff:=by rw [Int.tmod_eq_emod_of_nonneg (by omega),hFf]
 have q6f:IntKind.u64.wrap Ff=Ff:=by rw [IntKind.wrap_u64];omega
 have q7f:IntKind.i64.wrap Ff=Ff:=wi (by omega)
 have q8f:¬s.fr=0:=by omega
 have q9f:(s.fr ==0)=false:=by rw [beq_eq_false_iff_ne];omega
 obtain ⟨Vx,hVx⟩:∃ z,IntKind.u64.wrap x=z:=⟨_,rfl⟩
 have hVbx:0<=Vx/\Vx<18446744073709551616:=by rw [<-hVx,IntKind.wrap_u64];omega
 obtain ⟨Fx,hFx⟩:∃ z,Vx%s.w=z:=⟨_,rfl⟩
 have m1x:=Int.emod_nonneg Vx (show s.w≠0 by omega)
 have m2x:=Int.emod_lt_of_pos Vx (show 0<s.w by omega)
 rw [hFx] at m1x m2x
 have q4x:IntKind.u64.wrap s.w=s.w:=by rw [IntKind.wrap_u64];omega
 have q5x:Vx.tmod s.w=Fx:=by rw [Int.tmod_eq_emod_of_nonneg (by omega),hFx]
 have q6x:IntKind.u64.wrap Fx=Fx:=by rw [IntKind.wrap_u64];omega
 have q7x:IntKind.i64.wrap Fx=Fx:=wi (by omega)
 have q8x:¬s.w=0:=by omega
 have q9x:(s.w ==0)=false:=by rw [beq_eq_false_iff_ne];omega
 obtain ⟨Vy,hVy⟩:∃ z,IntKind.u64.wrap y=z:=⟨_,rfl⟩
 have hVby:0<=Vy/\Vy<18446744073709551616:=by rw [<-hVy,IntKind.wrap_u64];omega
 obtain ⟨Fy,hFy⟩:∃ z,Vy%s.h=z:=⟨_,rfl⟩
 have m1y:=Int.emod_nonneg Vy (show s.h≠0 by omega)
 have m2y:=Int.emod_lt_of_pos Vy (show 0<s.h by omega)
 rw [hFy] at m1y m2y
 have q4y:IntKind.u64.wrap s.h=s.h:=by rw [IntKind.wrap_u64];omega
 have q5y:Vy.tmod s.h=Fy:=by rw [Int.tmod_eq_emod_of_nonneg (by omega),hFy]
 have q6y:IntKind.u64.wrap Fy=Fy:=by rw [IntKind.wrap_u64];omega
 have q7y:IntKind.i64.wrap Fy=Fy:=wi (by omega)
 have q8y:¬s.h=0:=by omega
 have q9y:(s.h ==0)=false:=by rw [beq_eq_false_iff_ne];omega
 have U6:=ca4 @Jf4 @Je7 @Jf3 (ca4 @Ja4 hVf q4f (ca4 q5f q6f q7f (ca4 q8f q9f hVx (ca4 q4x q5x q6x (ca4 q7x q8x q9x (ca4 hVy q4y q5y (ca4 q6y q7y q8y q9y)))))))
 refine AW.c 1 U6 Tru ?_
 refine AW.q fun K J0=>?_
 refine AW.c 1 U6 (Xs7 s R _ (hR.app _) hL) ?_
 apply AW.x rfl
 apply AW.z
 apply J0
 refine AW.d [.val,.val,.val,.val,.rd 0,.val,.val,.val,.val,.val,.val,.val,.rd 0,.val,.val,.val,.val,.val,.val,.val,.rd 0,.val,.val,.val,.val,.val,.val] fol U6 Tru ?_
 refine AW.anyMemG (fun m1=>(∃ L,m1=m++(⟨.fix,32,0,0,scC s R⟩::L))/\MWf m1.length m1) ⟨⟨[],by (try simp only [scC,hdC,tlC,c3C]);rfl⟩,MWf.app (hwf.grow (by simp)) (Ja0 (hR.bel _ (by simp)) Jb7)⟩ fun m1 hm1=>?_
 obtain ⟨⟨L1,hm1⟩,hwf1⟩:=hm1
 have hR1:ScR 138 143 285 146 150 m1 s R:=by rw [hm1];exact hR.app _
 have hb1:m1[m.length]?=some ⟨.fix,32,0,0,scC s R⟩:=by rw [hm1,Jn4];rfl
 have ll1:=Jb2 hb1
 obtain ⟨m2,hm2⟩:∃ z,m1++toB s R m1=z:=⟨_,rfl⟩
 have hto:=Xn0 s R m1 hR1 hL.sm
 rw [hm2] at hto
 have hP2:=Kq8 hR1
 rw [hm2] at hP2
 obtain ⟨R2,hR2⟩:∃ z,toR s m1.length=z:=⟨_,rfl⟩
 rw [hR2] at hto hP2
 obtain ⟨L9,p,E,hrd,hS⟩:=Ku8 s R2 Ff m2 hP2 hL.ck m1f m2f
 obtain ⟨a,ha⟩:∃ a,Jj7 s (Ff*65536)=a:=⟨_,rfl⟩
 obtain ⟨b,hb⟩:∃ b,Jj7 s (Ff*65536+s.sh)=b:=⟨_,rfl⟩
 rw [ha,hb] at hS
 have hb2:(m2++L9)[m.length]?=some ⟨.fix,32,0,0,scC s R⟩:=by rw [<-hm2,List.append_assoc];exact Ja5 hb1 _
 have hR3:ScR 138 143 285 146 150 (m2++L9) s R:=by rw [<-hm2];exact (hR1.app _).app _
 obtain ⟨m3,hm3⟩:∃ z,m2++L9=z:=⟨_,rfl⟩
 rw [hm3] at hb2 hR3 hS hrd
 have hmx:∃ X,m3=m++X:=⟨_,by rw [<-hm3,<-hm2,hm1,List.append_assoc,List.append_assoc]⟩
 have ll3:=Jb2 hb2
 have bq:∀ z:Int,(z ==z)=true:=fun z=>beq_self_eq_true z
 have U7:=ca3 U6 hb1 (Ja5 hb1)
 refine AW.c 1 U7 (ca2 hto hrd) ?_
 obtain ⟨TT,hTT⟩:∃ z,Vi3 s Ff a b Fx Fy=z:=⟨_,rfl⟩
 have hTc:=Kj1 TT
 have q_4:=Vb5 s R2 Ff E a b p Fx Fy _ hS m1x m2x m1y m2y
 rw [hTT,hTc] at q_4
 have q_5:=Vf0 TT
 rw [hTc] at q_5
 have q_6:=fun M hR=>Vm7 s R Ff Fx Fy M hR hg hT hJ hX hE hLK ⟨m1f,by omega⟩ m1x m2x m1y m2y
 rw [ha,hb,hTT,hTc] at q_6
 have U8:=ca4 U7 hb2 (Ja5 hb2) bq
 refine AW.d [.ext,.val,.val,.val,.val,.val,.val,.val,.val,.ext,.ext,.rd 1,.val,.val,.val,.ext,.val,.val,.val] fol U8 (ca4 Ji5 q_4 q_5 (q_6 _ hR3)) ?_
 refine AW.ret ?_
 refine hQ _ _ _ ?_
 obtain ⟨X9,hX9⟩:=hmx
 rw [hX9]
 refine RetP.drop (by first|exact Or.inr rfl|exact Or.inl rfl) ?_ ?_ hwf
 · (simp only [Jd0,Ja7,Jb5,AV.tv,push_cast,simprocAttr])<;>rfl
 rfl
end Go.Proofs.YtaannomfigammaaGreat
