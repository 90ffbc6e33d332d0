/- Walks and facts of this seat's program over abstract states, printed by programs of mine; no conditions but those that each theorem names. -/
import Derived.Test.YtaannomfigammaaGreatM4
set_option linter.unusedSimpArgs false
set_option linter.unusedVariables false
set_option maxRecDepth 100000
set_option maxHeartbeats 4000000
namespace Go.Proofs.YtaannomfigammaaGreat
open Go Go.Eng
def Qm0 (a b:V):V:=Jb2 a (Je7 b (Jd2 131072 (Jf7 a b)))
def Qp3 (d n:V):V:=if 0<Jf7 n d then Vs2 n else n
structure HT where
 (t i:Int) (p n:V)
def htC (h:HT):List CV:=.int .i64 h.t::.int .i64 h.i::(c3C h.p++c3C h.n)
def ht0:HT:=⟨0,0,z0V,z0V⟩
def ryC (r:RY):List CV:=c3C r.o++(c3C r.d++[.int .i64 r.part])
theorem Xf7 (r:RY):ryC r=[.int .i64 (r.o 0),.int .i64 (r.o 1),.int .i64 (r.o 2),.int .i64 (r.d 0),.int .i64 (r.d 1),.int .i64 (r.d 2),.int .i64 (r.part)]:=rfl
theorem Jo2 (r:RY):ryC r=(c3C r.o++(c3C r.d++[.int .i64 r.part])):=rfl
theorem Kt9 (r:RY)(t:Int)(m:Ja1):Ctr Tryz.prog 194 [.agg (ryC r),.one (.int .i64 t)] m (.agg (c3C (Jf0 r t))) m:=by
 have U1:=ca2 @Jo2 @Ja6
 exact Ctr.fd Tryz.func194 [.cell 4 59] 12 [[.val,.rd 0,.val,.rd 0,.val,.ext,.ext,.wr]] U1 (ca2 (Jr5 r.d t) (Qb2 r.o (Je7 r.d t)))
theorem Kv0 (r:RY)(a b:Int)(m:Ja1):Ctr Tryz.prog 125 [.agg (ryC r),.one (.int .i64 a),.one (.int .i64 b)] m (.agg (bxC (Jw3 r a b))) m:=by
 refine Ctr.en Tryz.func125 [.cell 6 232] 15 fun hwf Q hQ=>?_
 have U3:=ca3 @Jo2 @Je9 @Ja6
 refine AW.c 1 U3 Tru ?_
 refine AW.q fun K J0=>?_
 refine AW.draw [.rd 0,.val,.ext,.rd 0,.val,.ext,.ext,.ext,.wr] fol (by decide) (by kernel_rfl) ?_
 simp only [push_cast,simprocAttr,U3]
 refine DCall.z (Kt9 r a _) ?_
 simp only [push_cast,simprocAttr,U3]
 refine DCall.z (Kt9 r b _) ?_
 simp only [push_cast,simprocAttr,U3]
 refine DExt.by (by first|rfl|exact (List.append_nil _).symm|(simp only [List.append_assoc,List.cons_append,List.nil_append];rfl)) ?_
 simp only [push_cast,simprocAttr,U3]
 refine DCall.z ((by have h:=fun M r9 q=>Xb4 (Jf0 r a) (fun _=>Jf0 r b) r9 0 0 1 1 M q (by omega) (by omega);exact h _ _ ⟨.grow,3,by simp only [push_cast,simprocAttr];rfl⟩)) ?_
 simp only [push_cast,simprocAttr,U3]
 exact AW.f Tru Tru
theorem Ke7 (a b:V)(m:Ja1):Ctr Tryz.prog 135 [.agg (c3C a),.agg (c3C b)] m (.agg (c3C (Qm0 a b))) m:=by
 exact Ctr.fd Tryz.func135 [.cell 4 59] 13 [[.rd 0,.rd 0,.rd 0,.rd 0,.ext,.ext,.ext,.ext,.wr]] @Ja6 (ca4 (Jf2 a b) Jm1 (Jr5 b (Jd2 131072 (Jf7 a b))) (Ji0 a (Je7 b (Jd2 131072 (Jf7 a b)))))
theorem Vj7 (r:RY)(n:V)(m:Ja1)(g:0<Jf7 n r.d):Ctr Tryz.prog 236 [.agg (ryC r),.agg (c3C n)] m (.agg (c3C (Qp3 r.d n))) m:=by
 refine Ctr.en Tryz.func236 [.cell 4 59] 13 fun hwf Q hQ=>?_
 have hv:Qp3 r.d n=Vs2 n:=if_pos g
 rw [hv] at hQ
 have U4:=ca3 @Jo2 @Ja6 g
 exact AW.f U4 (ca2 (Jf2 n r.d) (neg_v n))
theorem Vj8 (r:RY)(n:V)(m:Ja1)(g:¬0<Jf7 n r.d):Ctr Tryz.prog 236 [.agg (ryC r),.agg (c3C n)] m (.agg (c3C (Qp3 r.d n))) m:=by
 refine Ctr.en Tryz.func236 [.cell 4 59] 13 fun hwf Q hQ=>?_
 have hv:Qp3 r.d n=n:=if_neg g
 rw [hv] at hQ
 have U5:=ca3 @Jo2 @Ja6 g
 exact AW.f U5 (Jf2 n r.d)
theorem Kr9 (r:RY)(n:V)(m:Ja1):Ctr Tryz.prog 236 [.agg (ryC r),.agg (c3C n)] m (.agg (c3C (Qp3 r.d n))) m:=by
 by_cases g:0<Jf7 n r.d
 ·exact Vj7 r n m g
 exact Vj8 r n m g
theorem Xj7 (b:BX)(q:V)(m:Ja1)(g0:q 0<b.lo 0):Ctr Tryz.prog 260 [.agg (bxC b),.agg (c3C q)] m (.one (.bool false)) m:=by
 refine Ctr.en Tryz.func260 [.tmp 4] 28 fun hwf Q hQ=>?_
 have U8:=ca4 @Je9 @Ja6 @decide_true (ca2 @decide_false g0)
 refine AW.w 4 U8 Tru fun K J0=>?_
 refine AW.r 4 ?_
 refine AW.w 5 U8 Tru fun K J1 K J2=>?_
 refine AW.sr 3 fun K J3=>?_
 simp only [push_cast,simprocAttr,U8]
 refine CThen.by (Jc0 q _) ?_
 simp only [push_cast,simprocAttr,U8]
 refine CThen.by (Jc0 b.lo _) ?_
 simp only [push_cast,simprocAttr,U8]
 try (refine CThen.by (Jc0 b.hi _) ?_;simp only [push_cast,simprocAttr,U8])
 exact AW.f U8 Tru
theorem Xj6 (b:BX)(q:V)(m:Ja1)(g0:¬q 0<b.lo 0)(g1:b.hi 0<q 0):Ctr Tryz.prog 260 [.agg (bxC b),.agg (c3C q)] m (.one (.bool false)) m:=by
 refine Ctr.en Tryz.func260 [.tmp 4] 28 fun hwf Q hQ=>?_
 have U9:=ca4 @Je9 @Ja6 @decide_true (ca3 @decide_false g0 g1)
 refine AW.w 4 U9 Tru fun K J0=>?_
 refine AW.r 4 ?_
 refine AW.w 5 U9 Tru fun K J1 K J2=>?_
 refine AW.sr 3 fun K J3=>?_
 simp only [push_cast,simprocAttr,U9]
 refine CThen.by (Jc0 q _) ?_
 simp only [push_cast,simprocAttr,U9]
 refine CThen.by (Jc0 b.lo _) ?_
 simp only [push_cast,simprocAttr,U9]
 try (refine CThen.by (Jc0 b.hi _) ?_;simp only [push_cast,simprocAttr,U9])
 exact AW.f U9 Tru
theorem Xj5 (b:BX)(q:V)(m:Ja1)(g0:¬q 0<b.lo 0)(g1:¬b.hi 0<q 0)(g2:q 1<b.lo 1):Ctr Tryz.prog 260 [.agg (bxC b),.agg (c3C q)] m (.one (.bool false)) m:=by
 refine Ctr.en Tryz.func260 [.tmp 4] 28 fun hwf Q hQ=>?_
 have U10:=ca4 @Je9 @Ja6 @decide_true (ca4 @decide_false g0 g1 g2)
 refine AW.w 4 U10 Tru fun K J0=>?_
 refine AW.r 4 ?_
 refine AW.w 5 U10 Tru fun K J1 K J2=>?_
 refine AW.sr 3 fun K J3=>?_
 simp only [push_cast,simprocAttr,U10]
 refine CThen.by (Jc0 q _) ?_
 simp only [push_cast,simprocAttr,U10]
 refine CThen.by (Jc0 b.lo _) ?_
 simp only [push_cast,simprocAttr,U10]
 try (refine CThen.by (Jc0 b.hi _) ?_;simp only [push_cast,simprocAttr,U10])
 refine AW.w 11 U10 Tru fun K J1 K J2=>?_
 refine AW.sr 3 fun K J3=>?_
 simp only [push_cast,simprocAttr,U10]
 refine CThen.by (Jc7 q _) ?_
 simp only [push_cast,simprocAttr,U10]
 refine CThen.by (Jc7 b.lo _) ?_
 simp only [push_cast,simprocAttr,U10]
 try (refine CThen.by (Jc7 b.hi _) ?_;simp only [push_cast,simprocAttr,U10])
 exact AW.f U10 Tru
theorem Xj4 (b:BX)(q:V)(m:Ja1)(g0:¬q 0<b.lo 0)(g1:¬b.hi 0<q 0)(g2:¬q 1<b.lo 1)(g3:b.hi 1<q 1):Ctr Tryz.prog 260 [.agg (bxC b),.agg (c3C q)] m (.one (.bool false)) m:=by
 refine Ctr.en Tryz.func260 [.tmp 4] 28 fun hwf Q hQ=>?_
 have U11:=ca4 @Je9 @Ja6 @decide_true (ca4 @decide_false g0 g1 (ca2 g2 g3))
 refine AW.w 4 U11 Tru fun K J0=>?_
 refine AW.r 4 ?_
 refine AW.w 5 U11 Tru fun K J1 K J2=>?_
 refine AW.sr 3 fun K J3=>?_
 simp only [push_cast,simprocAttr,U11]
 refine CThen.by (Jc0 q _) ?_
 simp only [push_cast,simprocAttr,U11]
 refine CThen.by (Jc0 b.lo _) ?_
 simp only [push_cast,simprocAttr,U11]
 try (refine CThen.by (Jc0 b.hi _) ?_;simp only [push_cast,simprocAttr,U11])
 refine AW.w 11 U11 Tru fun K J1 K J2=>?_
 refine AW.sr 3 fun K J3=>?_
 simp only [push_cast,simprocAttr,U11]
 refine CThen.by (Jc7 q _) ?_
 simp only [push_cast,simprocAttr,U11]
 refine CThen.by (Jc7 b.lo _) ?_
 simp only [push_cast,simprocAttr,U11]
 try (refine CThen.by (Jc7 b.hi _) ?_;simp only [push_cast,simprocAttr,U11])
 exact AW.f U11 Tru
theorem Xj3 (b:BX)(q:V)(m:Ja1)(g0:¬q 0<b.lo 0)(g1:¬b.hi 0<q 0)(g2:¬q 1<b.lo 1)(g3:¬b.hi 1<q 1)(g4:q 2<b.lo 2):Ctr Tryz.prog 260 [.agg (bxC b),.agg (c3C q)] m (.one (.bool false)) m:=by
 refine Ctr.en Tryz.func260 [.tmp 4] 28 fun hwf Q hQ=>?_
 have U12:=ca4 @Je9 @Ja6 @decide_true (ca4 @decide_false g0 g1 (ca3 g2 g3 g4))
 refine AW.w 4 U12 Tru fun K J0=>?_
 refine AW.r 4 ?_
 refine AW.w 5 U12 Tru fun K J1 K J2=>?_
 refine AW.sr 3 fun K J3=>?_
 simp only [push_cast,simprocAttr,U12]
 refine CThen.by (Jc0 q _) ?_
 simp only [push_cast,simprocAttr,U12]
 refine CThen.by (Jc0 b.lo _) ?_
 simp only [push_cast,simprocAttr,U12]
 try (refine CThen.by (Jc0 b.hi _) ?_;simp only [push_cast,simprocAttr,U12])
 refine AW.w 11 U12 Tru fun K J1 K J2=>?_
 refine AW.sr 3 fun K J3=>?_
 simp only [push_cast,simprocAttr,U12]
 refine CThen.by (Jc7 q _) ?_
 simp only [push_cast,simprocAttr,U12]
 refine CThen.by (Jc7 b.lo _) ?_
 simp only [push_cast,simprocAttr,U12]
 try (refine CThen.by (Jc7 b.hi _) ?_;simp only [push_cast,simprocAttr,U12])
 refine AW.w 11 U12 Tru fun K J1 K J2=>?_
 refine AW.sr 3 fun K J3=>?_
 simp only [push_cast,simprocAttr,U12]
 refine CThen.by (Je2 q _) ?_
 simp only [push_cast,simprocAttr,U12]
 refine CThen.by (Je2 b.lo _) ?_
 simp only [push_cast,simprocAttr,U12]
 try (refine CThen.by (Je2 b.hi _) ?_;simp only [push_cast,simprocAttr,U12])
 exact AW.f U12 Tru
theorem Xj2 (b:BX)(q:V)(m:Ja1)(g0:¬q 0<b.lo 0)(g1:¬b.hi 0<q 0)(g2:¬q 1<b.lo 1)(g3:¬b.hi 1<q 1)(g4:¬q 2<b.lo 2)(g5:b.hi 2<q 2):Ctr Tryz.prog 260 [.agg (bxC b),.agg (c3C q)] m (.one (.bool false)) m:=by
 refine Ctr.en Tryz.func260 [.tmp 4] 28 fun hwf Q hQ=>?_
 have U13:=ca4 @Je9 @Ja6 @decide_true (ca4 @decide_false g0 g1 (ca4 g2 g3 g4 g5))
 refine AW.w 4 U13 Tru fun K J0=>?_
 refine AW.r 4 ?_
 refine AW.w 5 U13 Tru fun K J1 K J2=>?_
 refine AW.sr 3 fun K J3=>?_
 simp only [push_cast,simprocAttr,U13]
 refine CThen.by (Jc0 q _) ?_
 simp only [push_cast,simprocAttr,U13]
 refine CThen.by (Jc0 b.lo _) ?_
 simp only [push_cast,simprocAttr,U13]
 try (refine CThen.by (Jc0 b.hi _) ?_;simp only [push_cast,simprocAttr,U13])
 refine AW.w 11 U13 Tru fun K J1 K J2=>?_
 refine AW.sr 3 fun K J3=>?_
 simp only [push_cast,simprocAttr,U13]
 refine CThen.by (Jc7 q _) ?_
 simp only [push_cast,simprocAttr,U13]
 refine CThen.by (Jc7 b.lo _) ?_
 simp only [push_cast,simprocAttr,U13]
 try (refine CThen.by (Jc7 b.hi _) ?_;simp only [push_cast,simprocAttr,U13])
 refine AW.w 11 U13 Tru fun K J1 K J2=>?_
 refine AW.sr 3 fun K J3=>?_
 simp only [push_cast,simprocAttr,U13]
 refine CThen.by (Je2 q _) ?_
 simp only [push_cast,simprocAttr,U13]
 refine CThen.by (Je2 b.lo _) ?_
 simp only [push_cast,simprocAttr,U13]
 try (refine CThen.by (Je2 b.hi _) ?_;simp only [push_cast,simprocAttr,U13])
 exact AW.f U13 Tru
theorem Xj1 (b:BX)(q:V)(m:Ja1)(g0:¬q 0<b.lo 0)(g1:¬b.hi 0<q 0)(g2:¬q 1<b.lo 1)(g3:¬b.hi 1<q 1)(g4:¬q 2<b.lo 2)(g5:¬b.hi 2<q 2):Ctr Tryz.prog 260 [.agg (bxC b),.agg (c3C q)] m (.one (.bool true)) m:=by
 refine Ctr.en Tryz.func260 [.tmp 4] 28 fun hwf Q hQ=>?_
 have U14:=ca4 @Je9 @Ja6 @decide_true (ca4 @decide_false g0 g1 (ca4 g2 g3 g4 g5))
 refine AW.w 4 U14 Tru fun K J0=>?_
 refine AW.r 4 ?_
 refine AW.w 5 U14 Tru fun K J1 K J2=>?_
 refine AW.sr 3 fun K J3=>?_
 simp only [push_cast,simprocAttr,U14]
 refine CThen.by (Jc0 q _) ?_
 simp only [push_cast,simprocAttr,U14]
 refine CThen.by (Jc0 b.lo _) ?_
 simp only [push_cast,simprocAttr,U14]
 try (refine CThen.by (Jc0 b.hi _) ?_;simp only [push_cast,simprocAttr,U14])
 refine AW.w 11 U14 Tru fun K J1 K J2=>?_
 refine AW.sr 3 fun K J3=>?_
 simp only [push_cast,simprocAttr,U14]
 refine CThen.by (Jc7 q _) ?_
 simp only [push_cast,simprocAttr,U14]
 refine CThen.by (Jc7 b.lo _) ?_
 simp only [push_cast,simprocAttr,U14]
 try (refine CThen.by (Jc7 b.hi _) ?_;simp only [push_cast,simprocAttr,U14])
 refine AW.w 11 U14 Tru fun K J1 K J2=>?_
 refine AW.sr 3 fun K J3=>?_
 simp only [push_cast,simprocAttr,U14]
 refine CThen.by (Je2 q _) ?_
 simp only [push_cast,simprocAttr,U14]
 refine CThen.by (Je2 b.lo _) ?_
 simp only [push_cast,simprocAttr,U14]
 try (refine CThen.by (Je2 b.hi _) ?_;simp only [push_cast,simprocAttr,U14])
 exact AW.f U14 Tru
theorem has_c (b:BX)(q:V)(m:Ja1)(z:Bool)(hz:z=true↔Ka1 b q):Ctr Tryz.prog 260 [.agg (bxC b),.agg (c3C q)] m (.one (.bool z)) m:=by
 by_cases g0:q 0<b.lo 0
 ·obtain rfl:z=false:=by
   cases z with
   | false=>rfl
   | true=>have:=(hz.1 rfl) 0 (by omega);omega
  exact Xj7 b q m g0
 by_cases g1:b.hi 0<q 0
 ·obtain rfl:z=false:=by
   cases z with
   | false=>rfl
   | true=>have:=(hz.1 rfl) 0 (by omega);omega
  exact Xj6 b q m g0 g1
 by_cases g2:q 1<b.lo 1
 ·obtain rfl:z=false:=by
   cases z with
   | false=>rfl
   | true=>have:=(hz.1 rfl) 1 (by omega);omega
  exact Xj5 b q m g0 g1 g2
 by_cases g3:b.hi 1<q 1
 ·obtain rfl:z=false:=by
   cases z with
   | false=>rfl
   | true=>have:=(hz.1 rfl) 1 (by omega);omega
  exact Xj4 b q m g0 g1 g2 g3
 by_cases g4:q 2<b.lo 2
 ·obtain rfl:z=false:=by
   cases z with
   | false=>rfl
   | true=>have:=(hz.1 rfl) 2 (by omega);omega
  exact Xj3 b q m g0 g1 g2 g3 g4
 by_cases g5:b.hi 2<q 2
 ·obtain rfl:z=false:=by
   cases z with
   | false=>rfl
   | true=>have:=(hz.1 rfl) 2 (by omega);omega
  exact Xj2 b q m g0 g1 g2 g3 g4 g5
 obtain rfl:z=true:=hz.2 fun k hk=>by
  match k,hk with
  | 0,_=>omega
  | 1,_=>omega
  | 2,_=>omega
 exact Xj1 b q m g0 g1 g2 g3 g4 g5
theorem Jp7 (h:HT):htC h=(.int .i64 h.t::.int .i64 h.i::(c3C h.p++c3C h.n)):=rfl
theorem Js5:z0V=(fun _=>0):=rfl
theorem Vx8 (P:PL)(r:RY)(t near far:Int)(m:Ja1)(g1:¬near<t):Ctr Tryz.prog 235 [.agg (ryC r),.agg (plC P),.one (.int .i64 t),.one (.int .i64 near),.one (.int .i64 far)] m (.tup [(true,htC (⟨t,0,Jf0 r t,z0V⟩)),(false,[.bool false])]) m:=by
 refine Ctr.en Tryz.func235 [.cell 10 165,.tmp 11] 34 fun hwf Q hQ=>?_
 have U8:=ca4 @Jo2 @Jv4 @Je9 (ca4 @Jp7 @Ja6 @Js5 (ca3 @decide_true @decide_false g1))
 refine AW.c 2 U8 (Kt9 r t) ?_
 refine AW.q fun K J0=>?_
 refine AW.draw [.rd 0,.val,.val,.val,.val,.val,.val,.val,.val,.val,.rd 0,.ext,.val,.rd 0,.ext,.val,.wr,.val] fol (by decide) (by kernel_rfl) ?_
 simp only [push_cast,simprocAttr,U8]
 exact AW.f Tru Tru
theorem Vx7 (P:PL)(r:RY)(t near far:Int)(m:Ja1)(g1:near<t)(g2:¬t<=far):Ctr Tryz.prog 235 [.agg (ryC r),.agg (plC P),.one (.int .i64 t),.one (.int .i64 near),.one (.int .i64 far)] m (.tup [(true,htC (⟨t,0,Jf0 r t,z0V⟩)),(false,[.bool false])]) m:=by
 refine Ctr.en Tryz.func235 [.cell 10 165,.tmp 11] 34 fun hwf Q hQ=>?_
 have U10:=ca4 @Jo2 @Jv4 @Je9 (ca4 @Jp7 @Ja6 @Js5 (ca4 @decide_true @decide_false g1 g2))
 refine AW.c 2 U10 (Kt9 r t) ?_
 refine AW.q fun K J0=>?_
 refine AW.draw [.rd 0,.val,.val,.val,.val,.val,.val,.val,.val,.val,.rd 0,.ext,.val,.rd 0,.ext,.val,.wr,.val] fol (by decide) (by kernel_rfl) ?_
 simp only [push_cast,simprocAttr,U10]
 exact AW.f Tru Tru
theorem Vx6 (P:PL)(r:RY)(t near far:Int)(m:Ja1)(g1:near<t)(g2:t<=far)(z:Bool)(hz:z=true↔Ka1 (Jc6 P) (Jf0 r t)):Ctr Tryz.prog 235 [.agg (ryC r),.agg (plC P),.one (.int .i64 t),.one (.int .i64 near),.one (.int .i64 far)] m (.tup [(true,htC (⟨t,0,Jf0 r t,z0V⟩)),(false,[.bool z])]) m:=by
 have U12:=ca4 @Jo2 @Jv4 @Je9 (ca4 @Jp7 @Ja6 @Js5 (ca4 @decide_true @decide_false g1 g2))
 exact Ctr.fd Tryz.func235 [.cell 10 165,.tmp 11] 34 [[.rd 0,.val,.val,.val,.val,.val,.val,.val,.val,.val,.rd 0,.ext,.val,.rd 0,.ext,.val,.wr,.val]] U12 (ca3 (Kt9 r t) (Jn1 P) (has_c (Jc6 P) (Jf0 r t) _ z hz))
theorem Ki1 (P:PL)(r:RY)(t near far:Int)(m:Ja1)(z:Bool)(hz:z=true↔(near<t/\t<=far/\Ka1 (Jc6 P) (Jf0 r t))):Ctr Tryz.prog 235 [.agg (ryC r),.agg (plC P),.one (.int .i64 t),.one (.int .i64 near),.one (.int .i64 far)] m (.tup [(true,htC (⟨t,0,Jf0 r t,z0V⟩)),(false,[.bool z])]) m:=by
 by_cases g1:near<t
 ·by_cases g2:t<=far
  ·exact Vx6 P r t near far m g1 g2 z ⟨fun h=>(hz.1 h).2.2,fun h=>hz.2 ⟨g1,g2,h⟩⟩
  obtain rfl:z=false:=by
   cases z with
   | false=>rfl
   | true=>exact absurd (hz.1 rfl).2.1 g2
  exact Vx7 P r t near far m g1 g2
 obtain rfl:z=false:=by
  cases z with
  | false=>rfl
  | true=>exact absurd (hz.1 rfl).1 g1
 exact Vx8 P r t near far m g1
def Ko3 (P:PL)(r:RY)(near far t:Int):Prop:=near<t/\t<=far/\Ka1 (Jc6 P) (Jf0 r t)
noncomputable def Jo4 (r:RY)(P:PL)(t:Int):V:=Qp3 r.d (if P.kind=0 then Jb9 (Jb2 (Jf0 r t) (P.P 0)) else Jb9 (Jd1 (Jb2 (P.P 1) (P.P 0)) (Jb2 (P.P 2) (P.P 0))))
noncomputable def htV (r:RY)(P:PL)(t:Int):HT:=⟨t,0,Jf0 r t,Jo4 r P t⟩
theorem Kh6 (b:Int):-Ja2 b=Jf3 0 b:=by
 unfold Jf3
 have h0:Ja2 0=0:=by decide
 have hb:=Jc3 b
 rw [h0,Int.zero_sub]
 exact (Jc1 (by omega)).symm
structure BalE (r:RY)(P:PL)(A B C D R t1 t2:Int):Prop where
 hA:Jf7 r.d r.d=A
 hB:Jf7 (Jb2 r.o (P.P 0)) r.d=B
 hC:Jf3 (Jf7 (Jb2 r.o (P.P 0)) (Jb2 r.o (P.P 0))) (Jd2 P.r P.r)=C
 hD:Jf3 (Jd2 B B) (Jd2 A C)=D
 hR:Jm8 D=R
 h1:Jg9 (Jf3 (-Ja2 B) R) A=t1
 h2:Jg9 (Jf3 R B) A=t2
theorem Vn2 (r:RY)(P:PL)(near far A B C D R t1 t2:Int)(m:Ja1)(hE:BalE r P A B C D R t1 t2)(hk:P.kind=0)(g:D<0):Ctr Tryz.prog 195 [.agg (ryC r),.agg (plC P),.one (.int .i64 near),.one (.int .i64 far)] m (.tup [(true,htC ht0),(false,[.bool false])]) m:=by
 refine Ctr.en Tryz.func195 [.cell 8 165,.tmp 9] 96 fun hwf Q hQ=>?_
 obtain ⟨hA,hB,hC,hD,hR,h1,h2⟩:=hE
 have gx:=Jk6 P
 have ng:=Kh6 B
 have hv:htC ht0=[.int .i64 0,.int .i64 0,.int .i64 0,.int .i64 0,.int .i64 0,.int .i64 0,.int .i64 0,.int .i64 0]:=rfl
 rw [hv] at hQ
 have U1:=ca4 gx @Jo2 @Jp7 (ca4 @Ja6 @Js5 hA (ca4 hB hC hD (ca4 hR h1 h2 (ca3 g @decide_true @decide_false))))
 exact AW.fd [[.val,.rd 0,.val,.rd 0,.ext,.rd 0,.val,.rd 0,.ext,.val,.val],[.rd 0,.rd 0,.ext,.val,.rd 0,.val,.rd 0,.ext,.ext,.val]] U1 (ca4 (Ji0 r.o (P.P 0)) (Jf2 r.d r.d) (Jf2 (Jb2 r.o (P.P 0)) r.d) (ca3 (Jf2 (Jb2 r.o (P.P 0)) (Jb2 r.o (P.P 0))) Jm1 Kd5))
theorem Vn1 (r:RY)(P:PL)(near far A B C D R t1 t2:Int)(m:Ja1)(hE:BalE r P A B C D R t1 t2)(hk:P.kind=0)(g:¬D<0)(ga:(A ==0)=true):Ctr Tryz.prog 195 [.agg (ryC r),.agg (plC P),.one (.int .i64 near),.one (.int .i64 far)] m (.tup [(true,htC ht0),(false,[.bool false])]) m:=by
 refine Ctr.en Tryz.func195 [.cell 8 165,.tmp 9] 96 fun hwf Q hQ=>?_
 obtain ⟨hA,hB,hC,hD,hR,h1,h2⟩:=hE
 have gx:=Jk6 P
 have ng:=Kh6 B
 have hv:htC ht0=[.int .i64 0,.int .i64 0,.int .i64 0,.int .i64 0,.int .i64 0,.int .i64 0,.int .i64 0,.int .i64 0]:=rfl
 rw [hv] at hQ
 have U3:=ca4 gx @Jo2 @Jp7 (ca4 @Ja6 @Js5 hA (ca4 hB hC hD (ca4 hR h1 h2 (ca4 g @decide_true @decide_false ga))))
 exact AW.fd [[.val,.rd 0,.val,.rd 0,.ext,.rd 0,.val,.rd 0,.ext,.val,.val],[.rd 0,.rd 0,.ext,.val,.rd 0,.val,.rd 0,.ext,.ext,.val]] U3 (ca4 (Ji0 r.o (P.P 0)) (Jf2 r.d r.d) (Jf2 (Jb2 r.o (P.P 0)) r.d) (ca3 (Jf2 (Jb2 r.o (P.P 0)) (Jb2 r.o (P.P 0))) Jm1 Kd5))
theorem Xb9 (r:RY)(P:PL)(near far A B C D R t1 t2:Int)(m:Ja1)(hE:BalE r P A B C D R t1 t2)(hk:P.kind=0)(g:¬D<0)(ga:(A ==0)=false)(g1:Ko3 P r near far t1):Ctr Tryz.prog 195 [.agg (ryC r),.agg (plC P),.one (.int .i64 near),.one (.int .i64 far)] m (.tup [(true,htC (htV r P t1)),(false,[.bool true])]) m:=by
 refine Ctr.en Tryz.func195 [.cell 8 165,.tmp 9] 96 fun hwf Q hQ=>?_
 obtain ⟨hA,hB,hC,hD,hR,h1,h2⟩:=hE
 have gx:=Jk6 P
 have ng:=Kh6 B
 have hn:Jo4 r P t1=Qp3 r.d (Jb9 (Jb2 (Jf0 r t1) (P.P 0))):=by unfold Jo4;rw [if_pos hk]
 have hv:htC (htV r P t1)=.int .i64 t1::.int .i64 0::(c3C (Jf0 r t1)++c3C (Qp3 r.d (Jb9 (Jb2 (Jf0 r t1) (P.P 0))))):=by unfold htV htC;rw [hn]
 rw [hv] at hQ
 have U5:=ca4 gx @Jo2 @Jp7 (ca4 @Ja6 @Js5 hA (ca4 hB hC hD (ca4 hR h1 h2 (ca4 g @decide_true @decide_false ga))))
 refine AW.wd [[.val,.rd 0,.val,.rd 0,.ext,.rd 0,.val,.rd 0,.ext,.val,.val],[.rd 0,.rd 0,.ext,.val,.rd 0,.val,.rd 0,.ext,.ext,.val]] 14 U5 (ca4 (Ji0 r.o (P.P 0)) (Jf2 r.d r.d) (Jf2 (Jb2 r.o (P.P 0)) r.d) (ca4 (Jf2 (Jb2 r.o (P.P 0)) (Jb2 r.o (P.P 0))) Jm1 Kd5 (ca2 Ku5 Vx2))) fun K J0=>?_
 refine AW.r 3 ?_
 exact AW.fd [[.rd 0,.rd 0,.val,.val,.ext,.val,.val,.ext,.val,.val,.val,.fl,.wr,.val],[.rd 0,.val,.rd 0,.val,.val,.rd 0,.ext,.ext,.ext,.val,.wr]] U5 (ca4 Ju0 (Ki1 P r t1 near far _ true ⟨fun _=>g1,fun _=>rfl⟩) (Ji0 (Jf0 r t1) (P.P 0)) (ca2 (Jo6 (Jb2 (Jf0 r t1) (P.P 0))) (Kr9 r (Jb9 (Jb2 (Jf0 r t1) (P.P 0))))))
theorem Xb8 (r:RY)(P:PL)(near far A B C D R t1 t2:Int)(m:Ja1)(hE:BalE r P A B C D R t1 t2)(hk:P.kind=0)(g:¬D<0)(ga:(A ==0)=false)(g1:¬Ko3 P r near far t1)(g2:Ko3 P r near far t2):Ctr Tryz.prog 195 [.agg (ryC r),.agg (plC P),.one (.int .i64 near),.one (.int .i64 far)] m (.tup [(true,htC (htV r P t2)),(false,[.bool true])]) m:=by
 refine Ctr.en Tryz.func195 [.cell 8 165,.tmp 9] 96 fun hwf Q hQ=>?_
 obtain ⟨hA,hB,hC,hD,hR,h1,h2⟩:=hE
 have gx:=Jk6 P
 have ng:=Kh6 B
 have hn:Jo4 r P t2=Qp3 r.d (Jb9 (Jb2 (Jf0 r t2) (P.P 0))):=by unfold Jo4;rw [if_pos hk]
 have hv:htC (htV r P t2)=.int .i64 t2::.int .i64 0::(c3C (Jf0 r t2)++c3C (Qp3 r.d (Jb9 (Jb2 (Jf0 r t2) (P.P 0))))):=by unfold htV htC;rw [hn]
 rw [hv] at hQ
 have U7:=ca4 gx @Jo2 @Jp7 (ca4 @Ja6 @Js5 hA (ca4 hB hC hD (ca4 hR h1 h2 (ca4 g @decide_true @decide_false ga))))
 refine AW.wd [[.val,.rd 0,.val,.rd 0,.ext,.rd 0,.val,.rd 0,.ext,.val,.val],[.rd 0,.rd 0,.ext,.val,.rd 0,.val,.rd 0,.ext,.ext,.val]] 14 U7 (ca4 (Ji0 r.o (P.P 0)) (Jf2 r.d r.d) (Jf2 (Jb2 r.o (P.P 0)) r.d) (ca4 (Jf2 (Jb2 r.o (P.P 0)) (Jb2 r.o (P.P 0))) Jm1 Kd5 (ca2 Ku5 Vx2))) fun K J0=>?_
 refine AW.r 3 ?_
 exact AW.fd [[.rd 0,.rd 0,.val,.val,.ext,.val,.val,.ext,.val,.val,.val,.fl,.wr,.val],[.rd 0,.rd 0,.val,.val,.ext,.val,.val,.ext,.val,.val,.val,.fl,.wr,.val],[.rd 0,.val,.rd 0,.val,.val,.rd 0,.ext,.ext,.ext,.val,.wr]] U7 (ca4 Ju0 (Ki1 P r t1 near far _ false ⟨fun h=>(by cases h),fun h=>absurd h g1⟩) (Ki1 P r t2 near far _ true ⟨fun _=>g2,fun _=>rfl⟩) (ca3 (Ji0 (Jf0 r t2) (P.P 0)) (Jo6 (Jb2 (Jf0 r t2) (P.P 0))) (Kr9 r (Jb9 (Jb2 (Jf0 r t2) (P.P 0))))))
theorem Xo2 (r:RY)(P:PL)(near far A B C D R t1 t2:Int)(m:Ja1)(hE:BalE r P A B C D R t1 t2)(hk:P.kind=0)(g:¬D<0)(ga:(A ==0)=false)(g1:¬Ko3 P r near far t1)(g2:¬Ko3 P r near far t2):Ctr Tryz.prog 195 [.agg (ryC r),.agg (plC P),.one (.int .i64 near),.one (.int .i64 far)] m (.tup [(true,htC ht0),(false,[.bool false])]) m:=by
 refine Ctr.en Tryz.func195 [.cell 8 165,.tmp 9] 96 fun hwf Q hQ=>?_
 obtain ⟨hA,hB,hC,hD,hR,h1,h2⟩:=hE
 have gx:=Jk6 P
 have ng:=Kh6 B
 have hv:htC ht0=[.int .i64 0,.int .i64 0,.int .i64 0,.int .i64 0,.int .i64 0,.int .i64 0,.int .i64 0,.int .i64 0]:=rfl
 rw [hv] at hQ
 have U9:=ca4 gx @Jo2 @Jp7 (ca4 @Ja6 @Js5 hA (ca4 hB hC hD (ca4 hR h1 h2 (ca4 g @decide_true @decide_false ga))))
 refine AW.wd [[.val,.rd 0,.val,.rd 0,.ext,.rd 0,.val,.rd 0,.ext,.val,.val],[.rd 0,.rd 0,.ext,.val,.rd 0,.val,.rd 0,.ext,.ext,.val]] 14 U9 (ca4 (Ji0 r.o (P.P 0)) (Jf2 r.d r.d) (Jf2 (Jb2 r.o (P.P 0)) r.d) (ca4 (Jf2 (Jb2 r.o (P.P 0)) (Jb2 r.o (P.P 0))) Jm1 Kd5 (ca2 Ku5 Vx2))) fun K J0=>?_
 refine AW.r 3 ?_
 exact AW.fd [[.rd 0,.rd 0,.val,.val,.ext,.val,.val,.ext,.val,.val,.val,.fl,.wr,.val],[.rd 0,.rd 0,.val,.val,.ext,.val,.val,.ext,.val,.val,.val,.fl,.wr,.val]] U9 (ca3 Ju0 (Ki1 P r t1 near far _ false ⟨fun h=>(by cases h),fun h=>absurd h g1⟩) (Ki1 P r t2 near far _ false ⟨fun h=>(by cases h),fun h=>absurd h g2⟩))
structure FacE (r:RY)(P:PL)(e1 e2 h s q:V)(D U W t1:Int):Prop where
 h1:e1=Jb2 (P.P 1) (P.P 0)
 h2:e2=Jb2 (P.P 2) (P.P 0)
 hh:h=Jd1 r.d e2
 hD:Jf7 e1 h=D
 hs:s=Jb2 r.o (P.P 0)
 hU:Jg9 (Jf7 s h) D=U
 hq:q=Jd1 s e1
 hW:Jg9 (Jf7 r.d q) D=W
 ht:Jg9 (Jf7 e2 q) D=t1
theorem Vk2 (r:RY)(P:PL)(near far:Int)(e1 e2 h s q:V)(D U W t1:Int)(m:Ja1)(hE:FacE r P e1 e2 h s q D U W t1)(hk:¬P.kind=0)(g0:(D ==0)=true):Ctr Tryz.prog 196 [.agg (ryC r),.agg (plC P),.one (.int .i64 near),.one (.int .i64 far)] m (.tup [(true,htC ht0),(false,[.bool false])]) m:=by
 refine Ctr.en Tryz.func196 [.cell 8 165,.tmp 9] 101 fun hwf Q hQ=>?_
 obtain ⟨h1,h2,hh,hD,hs,hU,hq,hW,ht⟩:=hE
 have gx:=Jk6 P
 have hv:htC ht0=[.int .i64 0,.int .i64 0,.int .i64 0,.int .i64 0,.int .i64 0,.int .i64 0,.int .i64 0,.int .i64 0]:=rfl
 rw [hv] at hQ
 have U1:=ca4 gx @Jo2 @Jp7 (ca4 @Ja6 @Js5 hD (ca4 hU hW ht (ca3 @decide_true @decide_false g0)))
 refine AW.c 1 U1 Tru ?_
 have q_1:=Ji0 (P.P 1) (P.P 0)
 rw [<-h1] at q_1
 have q_2:=Ji0 (P.P 2) (P.P 0)
 rw [<-h2] at q_2
 refine AW.d [.val,.val,.rd 0,.val,.val,.rd 0,.ext,.val,.val,.rd 0,.val,.val,.rd 0,.ext,.fl,.fl,.wr,.wr] fol U1 (ca2 q_1 q_2) ?_
 have q_3:=Jj6 r.d e2
 rw [<-hh] at q_3
 exact AW.f U1 (ca2 q_3 (Jf2 e1 h))
theorem Vk1 (r:RY)(P:PL)(near far:Int)(e1 e2 h s q:V)(D U W t1:Int)(m:Ja1)(hE:FacE r P e1 e2 h s q D U W t1)(hk:¬P.kind=0)(g0:(D ==0)=false)(g1:U<0):Ctr Tryz.prog 196 [.agg (ryC r),.agg (plC P),.one (.int .i64 near),.one (.int .i64 far)] m (.tup [(true,htC ht0),(false,[.bool false])]) m:=by
 refine Ctr.en Tryz.func196 [.cell 8 165,.tmp 9] 101 fun hwf Q hQ=>?_
 obtain ⟨h1,h2,hh,hD,hs,hU,hq,hW,ht⟩:=hE
 have gx:=Jk6 P
 have hv:htC ht0=[.int .i64 0,.int .i64 0,.int .i64 0,.int .i64 0,.int .i64 0,.int .i64 0,.int .i64 0,.int .i64 0]:=rfl
 rw [hv] at hQ
 have U3:=ca4 gx @Jo2 @Jp7 (ca4 @Ja6 @Js5 hD (ca4 hU hW ht (ca4 @decide_true @decide_false g0 g1)))
 refine AW.c 1 U3 Tru ?_
 have q_7:=Ji0 (P.P 1) (P.P 0)
 rw [<-h1] at q_7
 have q_8:=Ji0 (P.P 2) (P.P 0)
 rw [<-h2] at q_8
 refine AW.d [.val,.val,.rd 0,.val,.val,.rd 0,.ext,.val,.val,.rd 0,.val,.val,.rd 0,.ext,.fl,.fl,.wr,.wr] fol U3 (ca2 q_7 q_8) ?_
 have q_9:=Jj6 r.d e2
 rw [<-hh] at q_9
 refine AW.w 7 U3 (ca2 q_9 (Jf2 e1 h)) ?_
 have q_10:=Ji0 r.o (P.P 0)
 rw [<-hs] at q_10
 have q_11:=Jj6 s e1
 rw [<-hq] at q_11
 refine AW.c 4 U3 (ca4 q_10 (Jf2 s h) Ju0 (ca2 q_11 (Jf2 r.d q))) ?_
 refine AW.q fun K J0=>?_
 refine AW.sr 1 fun K J1=>?_
 simp only [push_cast,simprocAttr,U3]
 exact AW.f U3 Tru
theorem Vk0 (r:RY)(P:PL)(near far:Int)(e1 e2 h s q:V)(D U W t1:Int)(m:Ja1)(hE:FacE r P e1 e2 h s q D U W t1)(hk:¬P.kind=0)(g0:(D ==0)=false)(g1:¬U<0)(g2:W<0):Ctr Tryz.prog 196 [.agg (ryC r),.agg (plC P),.one (.int .i64 near),.one (.int .i64 far)] m (.tup [(true,htC ht0),(false,[.bool false])]) m:=by
 refine Ctr.en Tryz.func196 [.cell 8 165,.tmp 9] 101 fun hwf Q hQ=>?_
 obtain ⟨h1,h2,hh,hD,hs,hU,hq,hW,ht⟩:=hE
 have gx:=Jk6 P
 have hv:htC ht0=[.int .i64 0,.int .i64 0,.int .i64 0,.int .i64 0,.int .i64 0,.int .i64 0,.int .i64 0,.int .i64 0]:=rfl
 rw [hv] at hQ
 have U5:=ca4 gx @Jo2 @Jp7 (ca4 @Ja6 @Js5 hD (ca4 hU hW ht (ca4 @decide_true @decide_false g0 (ca2 g1 g2))))
 refine AW.c 1 U5 Tru ?_
 have q_17:=Ji0 (P.P 1) (P.P 0)
 rw [<-h1] at q_17
 have q_18:=Ji0 (P.P 2) (P.P 0)
 rw [<-h2] at q_18
 refine AW.d [.val,.val,.rd 0,.val,.val,.rd 0,.ext,.val,.val,.rd 0,.val,.val,.rd 0,.ext,.fl,.fl,.wr,.wr] fol U5 (ca2 q_17 q_18) ?_
 have q_19:=Jj6 r.d e2
 rw [<-hh] at q_19
 refine AW.w 7 U5 (ca2 q_19 (Jf2 e1 h)) ?_
 have q_20:=Ji0 r.o (P.P 0)
 rw [<-hs] at q_20
 have q_21:=Jj6 s e1
 rw [<-hq] at q_21
 refine AW.c 4 U5 (ca4 q_20 (Jf2 s h) Ju0 (ca2 q_21 (Jf2 r.d q))) ?_
 refine AW.q fun K J0=>?_
 refine AW.sr 1 fun K J1=>?_
 simp only [push_cast,simprocAttr,U5]
 exact AW.f U5 Tru
theorem Vj9 (r:RY)(P:PL)(near far:Int)(e1 e2 h s q:V)(D U W t1:Int)(m:Ja1)(hE:FacE r P e1 e2 h s q D U W t1)(hk:¬P.kind=0)(g0:(D ==0)=false)(g1:¬U<0)(g2:¬W<0)(g3:65536<Jd0 U W):Ctr Tryz.prog 196 [.agg (ryC r),.agg (plC P),.one (.int .i64 near),.one (.int .i64 far)] m (.tup [(true,htC ht0),(false,[.bool false])]) m:=by
 refine Ctr.en Tryz.func196 [.cell 8 165,.tmp 9] 101 fun hwf Q hQ=>?_
 obtain ⟨h1,h2,hh,hD,hs,hU,hq,hW,ht⟩:=hE
 have gx:=Jk6 P
 have hv:htC ht0=[.int .i64 0,.int .i64 0,.int .i64 0,.int .i64 0,.int .i64 0,.int .i64 0,.int .i64 0,.int .i64 0]:=rfl
 rw [hv] at hQ
 have U7:=ca4 gx @Jo2 @Jp7 (ca4 @Ja6 @Js5 hD (ca4 hU hW ht (ca4 @decide_true @decide_false g0 (ca3 g1 g2 g3))))
 refine AW.c 1 U7 Tru ?_
 have q_27:=Ji0 (P.P 1) (P.P 0)
 rw [<-h1] at q_27
 have q_28:=Ji0 (P.P 2) (P.P 0)
 rw [<-h2] at q_28
 refine AW.d [.val,.val,.rd 0,.val,.val,.rd 0,.ext,.val,.val,.rd 0,.val,.val,.rd 0,.ext,.fl,.fl,.wr,.wr] fol U7 (ca2 q_27 q_28) ?_
 have q_29:=Jj6 r.d e2
 rw [<-hh] at q_29
 refine AW.w 7 U7 (ca2 q_29 (Jf2 e1 h)) ?_
 have q_30:=Ji0 r.o (P.P 0)
 rw [<-hs] at q_30
 have q_31:=Jj6 s e1
 rw [<-hq] at q_31
 exact AW.f U7 (ca4 q_30 (Jf2 s h) Ju0 (ca3 q_31 (Jf2 r.d q) Kb9))
theorem Xj9 (r:RY)(P:PL)(near far:Int)(e1 e2 h s q:V)(D U W t1:Int)(m:Ja1)(hE:FacE r P e1 e2 h s q D U W t1)(hk:¬P.kind=0)(g0:(D ==0)=false)(g1:¬U<0)(g2:¬W<0)(g3:¬65536<Jd0 U W)(gm:¬Ko3 P r near far t1):Ctr Tryz.prog 196 [.agg (ryC r),.agg (plC P),.one (.int .i64 near),.one (.int .i64 far)] m (.tup [(true,htC ht0),(false,[.bool false])]) m:=by
 refine Ctr.en Tryz.func196 [.cell 8 165,.tmp 9] 101 fun hwf Q hQ=>?_
 obtain ⟨h1,h2,hh,hD,hs,hU,hq,hW,ht⟩:=hE
 have gx:=Jk6 P
 have hv:htC ht0=[.int .i64 0,.int .i64 0,.int .i64 0,.int .i64 0,.int .i64 0,.int .i64 0,.int .i64 0,.int .i64 0]:=rfl
 rw [hv] at hQ
 have U9:=ca4 gx @Jo2 @Jp7 (ca4 @Ja6 @Js5 hD (ca4 hU hW ht (ca4 @decide_true @decide_false g0 (ca3 g1 g2 g3))))
 refine AW.c 1 U9 Tru ?_
 have q_37:=Ji0 (P.P 1) (P.P 0)
 rw [<-h1] at q_37
 have q_38:=Ji0 (P.P 2) (P.P 0)
 rw [<-h2] at q_38
 refine AW.d [.val,.val,.rd 0,.val,.val,.rd 0,.ext,.val,.val,.rd 0,.val,.val,.rd 0,.ext,.fl,.fl,.wr,.wr] fol U9 (ca2 q_37 q_38) ?_
 have q_39:=Jj6 r.d e2
 rw [<-hh] at q_39
 refine AW.w 7 U9 (ca2 q_39 (Jf2 e1 h)) ?_
 have q_40:=Ji0 r.o (P.P 0)
 rw [<-hs] at q_40
 have q_41:=Jj6 s e1
 rw [<-hq] at q_41
 exact AW.fd [[.rd 0,.rd 0,.rd 0,.rd 0,.ext,.val,.ext,.val,.val,.ext,.val,.val,.val,.fl,.wr,.val]] U9 (ca4 q_40 (Jf2 s h) Ju0 (ca4 q_41 (Jf2 r.d q) Kb9 (ca2 (Jf2 e2 q) (Ki1 P r t1 near far _ false ⟨fun h=>(by cases h),fun h=>absurd h gm⟩))))
theorem Xj8 (r:RY)(P:PL)(near far:Int)(e1 e2 h s q:V)(D U W t1:Int)(m:Ja1)(hE:FacE r P e1 e2 h s q D U W t1)(hk:¬P.kind=0)(g0:(D ==0)=false)(g1:¬U<0)(g2:¬W<0)(g3:¬65536<Jd0 U W)(gm:Ko3 P r near far t1):Ctr Tryz.prog 196 [.agg (ryC r),.agg (plC P),.one (.int .i64 near),.one (.int .i64 far)] m (.tup [(true,htC (htV r P t1)),(false,[.bool true])]) m:=by
 refine Ctr.en Tryz.func196 [.cell 8 165,.tmp 9] 101 fun hwf Q hQ=>?_
 obtain ⟨h1,h2,hh,hD,hs,hU,hq,hW,ht⟩:=hE
 have gx:=Jk6 P
 have hn:Jo4 r P t1=Qp3 r.d (Jb9 (Jd1 e1 e2)):=by unfold Jo4;rw [if_neg hk,h1,h2]
 have hv:htC (htV r P t1)=.int .i64 t1::.int .i64 0::(c3C (Jf0 r t1)++c3C (Qp3 r.d (Jb9 (Jd1 e1 e2)))):=by unfold htV htC;rw [hn]
 rw [hv] at hQ
 have U11:=ca4 gx @Jo2 @Jp7 (ca4 @Ja6 @Js5 hD (ca4 hU hW ht (ca4 @decide_true @decide_false g0 (ca3 g1 g2 g3))))
 refine AW.c 1 U11 Tru ?_
 have q_47:=Ji0 (P.P 1) (P.P 0)
 rw [<-h1] at q_47
 have q_48:=Ji0 (P.P 2) (P.P 0)
 rw [<-h2] at q_48
 refine AW.d [.val,.val,.rd 0,.val,.val,.rd 0,.ext,.val,.val,.rd 0,.val,.val,.rd 0,.ext,.fl,.fl,.wr,.wr] fol U11 (ca2 q_47 q_48) ?_
 have q_49:=Jj6 r.d e2
 rw [<-hh] at q_49
 refine AW.w 7 U11 (ca2 q_49 (Jf2 e1 h)) ?_
 have q_50:=Ji0 r.o (P.P 0)
 rw [<-hs] at q_50
 have q_51:=Jj6 s e1
 rw [<-hq] at q_51
 exact AW.fd [[.rd 0,.rd 0,.rd 0,.rd 0,.ext,.val,.ext,.val,.val,.ext,.val,.val,.val,.fl,.wr,.val],[.rd 0,.rd 0,.rd 0,.ext,.ext,.ext,.val,.wr]] U11 (ca4 q_50 (Jf2 s h) Ju0 (ca4 q_51 (Jf2 r.d q) Kb9 (ca4 (Jf2 e2 q) (Ki1 P r t1 near far _ true ⟨fun _=>gm,fun _=>rfl⟩) (Jj6 e1 e2) (ca2 (Jo6 (Jd1 e1 e2)) (Kr9 r (Jb9 (Jd1 e1 e2)))))))
open Classical in
noncomputable def Ke3 (r:RY)(P:PL):List Int :=
  if P.kind=0 then
    if Jf3 (Jd2 (Jf7 (Jb2 r.o (P.P 0)) r.d) (Jf7 (Jb2 r.o (P.P 0)) r.d)) (Jd2 (Jf7 r.d r.d) (Jf3 (Jf7 (Jb2 r.o (P.P 0)) (Jb2 r.o (P.P 0))) (Jd2 P.r P.r)))<0\/Jf7 r.d r.d=0 then [] else
      [Jg9 (Jf3 (-Ja2 (Jf7 (Jb2 r.o (P.P 0)) r.d)) (Jm8 (Jf3 (Jd2 (Jf7 (Jb2 r.o (P.P 0)) r.d) (Jf7 (Jb2 r.o (P.P 0)) r.d)) (Jd2 (Jf7 r.d r.d) (Jf3 (Jf7 (Jb2 r.o (P.P 0)) (Jb2 r.o (P.P 0))) (Jd2 P.r P.r)))))) (Jf7 r.d r.d),
       Jg9 (Jf3 (Jm8 (Jf3 (Jd2 (Jf7 (Jb2 r.o (P.P 0)) r.d) (Jf7 (Jb2 r.o (P.P 0)) r.d)) (Jd2 (Jf7 r.d r.d) (Jf3 (Jf7 (Jb2 r.o (P.P 0)) (Jb2 r.o (P.P 0))) (Jd2 P.r P.r))))) (Jf7 (Jb2 r.o (P.P 0)) r.d)) (Jf7 r.d r.d)]
  else
    if Jf7 (Jb2 (P.P 1) (P.P 0)) (Jd1 r.d (Jb2 (P.P 2) (P.P 0)))=0 \/
       Jg9 (Jf7 (Jb2 r.o (P.P 0)) (Jd1 r.d (Jb2 (P.P 2) (P.P 0)))) (Jf7 (Jb2 (P.P 1) (P.P 0)) (Jd1 r.d (Jb2 (P.P 2) (P.P 0))))<0 \/
       Jg9 (Jf7 r.d (Jd1 (Jb2 r.o (P.P 0)) (Jb2 (P.P 1) (P.P 0)))) (Jf7 (Jb2 (P.P 1) (P.P 0)) (Jd1 r.d (Jb2 (P.P 2) (P.P 0))))<0 \/
       65536<Jd0 (Jg9 (Jf7 (Jb2 r.o (P.P 0)) (Jd1 r.d (Jb2 (P.P 2) (P.P 0)))) (Jf7 (Jb2 (P.P 1) (P.P 0)) (Jd1 r.d (Jb2 (P.P 2) (P.P 0))))) (Jg9 (Jf7 r.d (Jd1 (Jb2 r.o (P.P 0)) (Jb2 (P.P 1) (P.P 0)))) (Jf7 (Jb2 (P.P 1) (P.P 0)) (Jd1 r.d (Jb2 (P.P 2) (P.P 0))))) then [] else
      [Jg9 (Jf7 (Jb2 (P.P 2) (P.P 0)) (Jd1 (Jb2 r.o (P.P 0)) (Jb2 (P.P 1) (P.P 0)))) (Jf7 (Jb2 (P.P 1) (P.P 0)) (Jd1 r.d (Jb2 (P.P 2) (P.P 0))))]
open Classical in
noncomputable def Ka0 (r:RY)(P:PL)(near far:Int):Option Int:=Vy8 (Ke3 r P) (fun t=>decide (Ka1 (Jc6 P) (Jf0 r t))) near far
noncomputable def Km2 (r:RY)(P:PL):Option Int->HT × Bool
 | none=>(ht0,false)
 | some t=>(htV r P t,true)
open Classical in
theorem Jw6 (r:RY)(P:PL)(near far t:Int):okT (fun t=>decide (Ka1 (Jc6 P) (Jf0 r t))) near far t=true↔Ko3 P r near far t:=by
 unfold okT Ko3;simp [and_assoc]
theorem Ju8 {r:RY}{P:PL}{near far:Int}(h:Ke3 r P=[]):Ka0 r P near far=none:=by unfold Ka0;rw [h];rfl
theorem Vi8 {r:RY}{P:PL}{near far t:Int}(h:Ke3 r P=[t]):(Ko3 P r near far t->Ka0 r P near far=some t)/\(¬Ko3 P r near far t->Ka0 r P near far=none):=by
 unfold Ka0 Vy8;rw [h]
 refine ⟨fun g=>?_,fun g=>?_⟩
 ·rw [List.find?_cons_of_pos ((Jw6 r P near far t).2 g)]
 rw [List.find?_cons_of_neg (fun q=>g ((Jw6 r P near far t).1 q))];rfl
theorem Vi7 {r:RY}{P:PL}{near far t u:Int}(h:Ke3 r P=[t,u]):(Ko3 P r near far t->Ka0 r P near far=some t)/\(¬Ko3 P r near far t->Ko3 P r near far u->Ka0 r P near far=some u)/\(¬Ko3 P r near far t->¬Ko3 P r near far u->Ka0 r P near far=none):=by
 unfold Ka0 Vy8;rw [h]
 refine ⟨fun g=>?_,fun g g2=>?_,fun g g2=>?_⟩
 ·rw [List.find?_cons_of_pos ((Jw6 r P near far t).2 g)]
 ·rw [List.find?_cons_of_neg (fun q=>g ((Jw6 r P near far t).1 q)),List.find?_cons_of_pos ((Jw6 r P near far u).2 g2)]
 rw [List.find?_cons_of_neg (fun q=>g ((Jw6 r P near far t).1 q)),List.find?_cons_of_neg (fun q=>g2 ((Jw6 r P near far u).1 q))];rfl
theorem Xo3 (r:RY)(P:PL)(near far:Int)(m:Ja1)(hk:P.kind=0):Ctr Tryz.prog 195 [.agg (ryC r),.agg (plC P),.one (.int .i64 near),.one (.int .i64 far)] m (.tup [(true,htC (Km2 r P (Ka0 r P near far)).1),(false,[.bool (Km2 r P (Ka0 r P near far)).2])]) m:=by
 obtain ⟨A,hA⟩:∃ A,Jf7 r.d r.d=A:=⟨_,rfl⟩
 obtain ⟨B,hB⟩:∃ B,Jf7 (Jb2 r.o (P.P 0)) r.d=B:=⟨_,rfl⟩
 obtain ⟨C,hC⟩:∃ C,Jf3 (Jf7 (Jb2 r.o (P.P 0)) (Jb2 r.o (P.P 0))) (Jd2 P.r P.r)=C:=⟨_,rfl⟩
 obtain ⟨D,hD⟩:∃ D,Jf3 (Jd2 B B) (Jd2 A C)=D:=⟨_,rfl⟩
 obtain ⟨R,hR⟩:∃ R,Jm8 D=R:=⟨_,rfl⟩
 obtain ⟨t1,h1⟩:∃ t,Jg9 (Jf3 (-Ja2 B) R) A=t:=⟨_,rfl⟩
 obtain ⟨t2,h2⟩:∃ t,Jg9 (Jf3 R B) A=t:=⟨_,rfl⟩
 have hE:BalE r P A B C D R t1 t2:=⟨hA,hB,hC,hD,hR,h1,h2⟩
 have hc:Ke3 r P=if D<0\/A=0 then [] else [t1,t2]:=by
  unfold Ke3;rw [if_pos hk,hA,hB,hC,hD,hR,h1,h2]
 by_cases g:D<0
 ·rw [Ju8 (by rw [hc,if_pos (.inl g)])];exact Vn2 r P near far A B C D R t1 t2 m hE hk g
 by_cases ga:A=0
 ·rw [Ju8 (by rw [hc,if_pos (.inr ga)])];exact Vn1 r P near far A B C D R t1 t2 m hE hk g (by rw [ga];rfl)
 have gb:(A ==0)=false:=by simpa using ga
 have hc2:Ke3 r P=[t1,t2]:=by rw [hc,if_neg (fun h=>h.elim g ga)]
 obtain ⟨k1,k2,k3⟩:=Vi7 (near:=near) (far:=far) hc2
 by_cases g1:Ko3 P r near far t1
 ·rw [k1 g1];exact Xb9 r P near far A B C D R t1 t2 m hE hk g gb g1
 by_cases g2:Ko3 P r near far t2
 ·rw [k2 g1 g2];exact Xb8 r P near far A B C D R t1 t2 m hE hk g gb g1 g2
 rw [k3 g1 g2];exact Xo2 r P near far A B C D R t1 t2 m hE hk g gb g1 g2
theorem Xk0 (r:RY)(P:PL)(near far:Int)(m:Ja1)(hk:¬P.kind=0):Ctr Tryz.prog 196 [.agg (ryC r),.agg (plC P),.one (.int .i64 near),.one (.int .i64 far)] m (.tup [(true,htC (Km2 r P (Ka0 r P near far)).1),(false,[.bool (Km2 r P (Ka0 r P near far)).2])]) m:=by
 obtain ⟨e1,h1⟩:∃ e,e=Jb2 (P.P 1) (P.P 0):=⟨_,rfl⟩
 obtain ⟨e2,h2⟩:∃ e,e=Jb2 (P.P 2) (P.P 0):=⟨_,rfl⟩
 obtain ⟨h,hh⟩:∃ h,h=Jd1 r.d e2:=⟨_,rfl⟩
 obtain ⟨D,hD⟩:∃ D,Jf7 e1 h=D:=⟨_,rfl⟩
 obtain ⟨s,hs⟩:∃ s,s=Jb2 r.o (P.P 0):=⟨_,rfl⟩
 obtain ⟨U,hU⟩:∃ U,Jg9 (Jf7 s h) D=U:=⟨_,rfl⟩
 obtain ⟨q,hq⟩:∃ q,q=Jd1 s e1:=⟨_,rfl⟩
 obtain ⟨W,hW⟩:∃ W,Jg9 (Jf7 r.d q) D=W:=⟨_,rfl⟩
 obtain ⟨t1,ht⟩:∃ t,Jg9 (Jf7 e2 q) D=t:=⟨_,rfl⟩
 have hE:FacE r P e1 e2 h s q D U W t1:=⟨h1,h2,hh,hD,hs,hU,hq,hW,ht⟩
 have hc:Ke3 r P=if D=0\/U<0\/W<0\/65536<Jd0 U W then [] else [t1]:=by
  unfold Ke3;rw [if_neg hk,<-h1,<-h2,<-hh,<-hs,<-hq,hD,hU,hW,ht]
 by_cases g0:D=0
 ·rw [Ju8 (by rw [hc,if_pos (.inl g0)])];exact Vk2 r P near far e1 e2 h s q D U W t1 m hE hk (by rw [g0];rfl)
 have gb:(D ==0)=false:=by simpa using g0
 by_cases g1:U<0
 ·rw [Ju8 (by rw [hc,if_pos (.inr (.inl g1))])];exact Vk1 r P near far e1 e2 h s q D U W t1 m hE hk gb g1
 by_cases g2:W<0
 ·rw [Ju8 (by rw [hc,if_pos (.inr (.inr (.inl g2)))])];exact Vk0 r P near far e1 e2 h s q D U W t1 m hE hk gb g1 g2
 by_cases g3:65536<Jd0 U W
 ·rw [Ju8 (by rw [hc,if_pos (.inr (.inr (.inr g3)))])];exact Vj9 r P near far e1 e2 h s q D U W t1 m hE hk gb g1 g2 g3
 have hc2:Ke3 r P=[t1]:=by rw [hc,if_neg (fun h=>h.elim g0 fun h=>h.elim g1 fun h=>h.elim g2 g3)]
 obtain ⟨k1,k2⟩:=Vi8 (near:=near) (far:=far) hc2
 by_cases gm:Ko3 P r near far t1
 ·rw [k1 gm];exact Xj8 r P near far e1 e2 h s q D U W t1 m hE hk gb g1 g2 g3 gm
 rw [k2 gm];exact Xj9 r P near far e1 e2 h s q D U W t1 m hE hk gb g1 g2 g3 gm
theorem Xe4 (r:RY)(M:MV)(near far:Int)(m:Ja1)(hk:M.A.kind=0):Ctr Tryz.prog 127 [.agg (ryC r),.agg (mvC M),.one (.int .i64 near),.one (.int .i64 far)] m (.tup [(true,htC (Km2 r (atM M r.part) (Ka0 r (atM M r.part) near far)).1),(false,[.bool (Km2 r (atM M r.part) (Ka0 r (atM M r.part) near far)).2])]) m:=by
 refine Ctr.en Tryz.func127 [.cell 8 165,.tmp 9] 32 fun hwf Q hQ=>?_
 obtain ⟨P,hP⟩:∃ P,P=atM M r.part:=⟨_,rfl⟩
 have hPk:P.kind=M.A.kind:=by rw [hP];rfl
 rw [<-hP] at hQ
 have gx:=Jk6 P
 have hkb:(P.kind ==0)=true:=by rw [hPk];exact beq_iff_eq.2 hk
 obtain ⟨o,ho⟩:∃ o,o=Ka0 r P near far:=⟨_,rfl⟩
 have q_1:=at_c M r.part
 rw [<-hP] at q_1
 have U1:=ca4 gx @Kv7 @Jv4 (ca4 @Jo2 @Jp7 @Ja6 hkb)
 refine AW.w 5 U1 q_1 fun K J0=>?_
 refine AW.sr 1 fun K J1=>?_
 simp only [push_cast,simprocAttr,U1]
 refine CThen.by (Xo3 r P near far _ (by rw [hPk];exact hk)) ?_
 simp only [push_cast,simprocAttr,U1]
 exact AW.f Tru Tru
theorem Xe5 (r:RY)(M:MV)(near far:Int)(m:Ja1)(hk:¬M.A.kind=0):Ctr Tryz.prog 127 [.agg (ryC r),.agg (mvC M),.one (.int .i64 near),.one (.int .i64 far)] m (.tup [(true,htC (Km2 r (atM M r.part) (Ka0 r (atM M r.part) near far)).1),(false,[.bool (Km2 r (atM M r.part) (Ka0 r (atM M r.part) near far)).2])]) m:=by
 refine Ctr.en Tryz.func127 [.cell 8 165,.tmp 9] 32 fun hwf Q hQ=>?_
 obtain ⟨P,hP⟩:∃ P,P=atM M r.part:=⟨_,rfl⟩
 have hPk:P.kind=M.A.kind:=by rw [hP];rfl
 rw [<-hP] at hQ
 have gx:=Jk6 P
 have hkb:(P.kind ==0)=false:=by rw [hPk];simpa using hk
 obtain ⟨o,ho⟩:∃ o,o=Ka0 r P near far:=⟨_,rfl⟩
 have q_2:=at_c M r.part
 rw [<-hP] at q_2
 have U2:=ca4 gx @Kv7 @Jv4 (ca4 @Jo2 @Jp7 @Ja6 hkb)
 refine AW.w 7 U2 q_2 ?_
 refine AW.sr 1 fun K J0=>?_
 simp only [push_cast,simprocAttr,U2]
 refine CThen.by (Xk0 r P near far _ (by rw [hPk];exact hk)) ?_
 simp only [push_cast,simprocAttr,U2]
 exact AW.f Tru Tru
theorem Kn2 (r:RY)(M:MV)(near far:Int)(m:Ja1):Ctr Tryz.prog 127 [.agg (ryC r),.agg (mvC M),.one (.int .i64 near),.one (.int .i64 far)] m (.tup [(true,htC (Km2 r (atM M r.part) (Ka0 r (atM M r.part) near far)).1),(false,[.bool (Km2 r (atM M r.part) (Ka0 r (atM M r.part) near far)).2])]) m:=by
 by_cases hk:M.A.kind=0
 ·exact Xe4 r M near far m hk
 exact Xe5 r M near far m hk
noncomputable def Hq (r:RY)(mv:Nat->MV)(near far:Int)(i:Nat):Option Int:=Ka0 r (atM (mv i) r.part) near far
noncomputable def Jg5 (r:RY)(mv:Nat->MV):Option (Int × Nat)->HT
 | none=>ht0
 | some (t,i)=>⟨t,(i:Int),Jf0 r t,Jo4 r (atM (mv i) r.part) t⟩
theorem Ky6 {H:Nat->Option Int}:∀ {n:Nat} {u:Int} {j:Nat},Jv3 H n=some (u,j)->j<n
 | 0,_,_,h=>by cases h
 | n+1,u,j,h=>by
  have h':Kt0 (Jv3 H n) n (H n)=some (u,j):=h
  unfold Kt0 at h'
  split at h'
  ·have:=Ky6 h';omega
  ·injection h' with h';injection h' with _ h';omega
  rename_i t u' j' hs
  split at h'
  ·injection h' with h';injection h' with _ h';omega
  have:=Ky6 (h'.symm ▸ hs:Jv3 H n=some (u,j));omega
theorem Qw4 (w sb sv n:Nat)(cnt:Int)(l:List Nat)(m:Ja1)(hw:m[w]?=some ⟨.fix,251,0,0,[.sl sb sv 0 n,.int .i64 cnt]⟩)(hs:m[sb]?=some ⟨.grow,3,sv,1,iC l⟩)(hd:w≠sb)(h0:n=0):Ctr Tryz.prog 122 [.one (.ptr w 0 0)] m (.tup [(false,[.int .i64 0]),(false,[.bool false])]) m:=by
 subst h0
 have lw:=Ja8 hw
 have U1:=ca2 hw (Ja3 hw)
 exact Ctr.f Tryz.func122 [.tmp 2,.tmp 3] 39 U1 Tru
theorem Kr1 (w sb sv:Nat)(cnt:Int)(l:List Nat)(x:Nat)(m:Ja1)(hw:m[w]?=some ⟨.fix,251,0,0,[.sl sb sv 0 (l.length+1),.int .i64 cnt]⟩)(hs:m[sb]?=some ⟨.grow,3,sv,1,iC (l++[x])⟩)(hd:w≠sb)(hc:0<=cnt/\cnt<=1000000000)(hl:l.length<=1000000):Ctr Tryz.prog 122 [.one (.ptr w 0 0)] m (.tup [(false,[.int .i64 (x:Int)]),(false,[.bool true])]) ((m.set w ⟨.fix,251,0,0,[.sl sb sv 0 l.length,.int .i64 (cnt+1)]⟩).set sb ⟨.grow,3,sv,1,iC l⟩):=by
 refine Ctr.en Tryz.func122 [.tmp 2,.tmp 3] 39 fun hwf Q hQ=>?_
 have lw:=Ja8 hw
 have ls:=Ja8 hs
 have hds:=hd.symm
 have e1:(((l.length+1:Nat):Int) ==0)=false:=by simp;omega
 have e1b:(((l.length:Int)+1) ==0)=false:=by simp;omega
 have e2:IntKind.i64.wrap ((l.length:Int)+1 - 1)=(l.length:Int):=by rw [show (l.length:Int)+1 - 1=(l.length:Int) by omega];exact wi (by omega)
 have e3:IntKind.i64.wrap (cnt+1)=cnt+1:=wi (by omega)
 have e4:(0:Int)<=(l.length:Int):=by omega
 have e5:(l.length:Int)<(l.length:Int)+1:=by omega
 have e6:(l.length:Int)<=(l.length:Int)+1:=by omega
 have e7:(iC (l++[x]))[l.length]?=some (.int .i64 (x:Int)):=by rw [<-Jt5,List.getElem?_append_right (by rw [Jf5];omega),Jf5,Nat.sub_self];rfl
 have e8:(iC (l++[x])).length=l.length+1:=by rw [Jf5];simp
 have e9:l.length<=l.length+1:=by omega
 have e10:l.length<l.length+1:=by omega
 have ht:(iC (l++[x])).take l.length=iC l:=by rw [<-Jt5,List.take_append_of_le_length (by rw [Jf5];omega),List.take_of_length_le (by rw [Jf5];omega)]
 have k1:∀ B,(m.set w B)[sb]?=m[sb]?:=fun B=>List.getElem?_set_ne hd
 have k2:∀ B,(m.set w B)[w]?=some B:=fun B=>List.getElem?_set_self lw
 have U2:=ca4 hw (Ja3 hw) hs (ca4 (Ja3 hs) e1 e1b (ca4 e2 e3 e4 (ca4 e5 e6 e7 (ca4 e8 e9 e10 (ca4 k1 k2 hd hds)))))
 refine AW.w 10 U2 Tru ?_
 refine AW.cut sb l.length (b:=⟨.grow,3,sv,1,iC (l++[x])⟩) (by simp only [push_cast,simprocAttr,k1,hs,List.set_set]) rfl ?_
 simp only [push_cast,simprocAttr,ht,List.set_set]
 refine AW.w 2 U2 Tru ?_
 refine hQ _ _ _ ?_
 refine RetP.dropM0 (by simp) (by first|exact Or.inr rfl|exact Or.inl rfl) ?_ ?_ (Jp1 (Jp1 hwf (by simp [CV.below];omega) rfl) (Jf4 _ _) rfl)
 · (simp only [Jd3,Ja9,Jb6,AV.tv,push_cast,simprocAttr])<;>rfl
 rfl
theorem Vv4 (a:Int):0<=Jm8 a:=by unfold Jm8;split<;>omega
theorem Qw6 (a:Int):0<=Jd2 a a:=by
 unfold Jd2
 have h:0<=Ja2 a*Ja2 a:=by
  rcases Int.le_total 0 (Ja2 a) with h|h
  ·exact Int.mul_nonneg h h
  exact Int.mul_nonneg_of_nonpos_of_nonpos h h
 have:=Jc5 (show (0:Int)<=Ja2 a*Ja2 a / 65536 by omega)
 have h0:Ja2 0=0:=by decide
 omega
theorem Vb3 {a b:Int}(ha:0<=a)(hb:0<=b):0<=Jd0 a b:=by
 unfold Jd0
 have h0:Ja2 0=0:=by decide
 have h1:=Jc5 ha
 have h2:=Jc5 hb
 have:=Jc5 (show (0:Int)<=Ja2 a+Ja2 b by omega)
 omega
theorem Xk4 (d:V):0<=Jf7 d d:=by
 unfold Jf7 Qh0
 exact Vb3 (Vb3 (Vb3 (Int.le_refl _) (Qw6 _)) (Qw6 _)) (Qw6 _)
theorem Vm2 (a b:V):Ja2 (Jf7 a b)=Jf7 a b:=by
 unfold Jf7 Qh0 Jd0
 exact Jc1 (Jc3 _)
theorem Qn3 {a b d:Int}(hd:0<d)(h:a<=b):Jh7 a d<=Jh7 b d:=by
 unfold Jh7
 first
 | exact Int.ediv_le_ediv hd h
 | (split<;>first|exact Int.ediv_le_ediv hd h|omega)
theorem Vm3 {x y d:Int}(hd:0<Ja2 d)(h:Ja2 x<=Ja2 y):Jg9 x d<=Jg9 y d:=by
 unfold Jg9
 rw [if_neg (by omega),if_neg (by omega)]
 exact Jc5 (Qn3 hd (by omega))
theorem Qa8 (r:RY)(P:PL):(Ke3 r P).Pairwise (·<=·):=by
 unfold Ke3
 split
 ·split
  ·exact List.Pairwise.nil
  rename_i hne
  have hA:¬Jf7 r.d r.d=0:=fun h=>hne (.inr h)
  have hd:0<Ja2 (Jf7 r.d r.d):=by rw [Vm2];have:=Xk4 r.d;omega
  generalize Jf7 (Jb2 r.o (P.P 0)) r.d=B
  generalize hR:Jm8 _=R
  have hr:0<=R:=by rw [<-hR];exact Vv4 _
  refine List.Pairwise.cons (fun t ht=>?_) (List.Pairwise.cons (fun t ht=>by cases ht) List.Pairwise.nil)
  simp only [List.mem_cons,List.not_mem_nil,or_false] at ht
  subst ht
  refine Vm3 hd ?_
  have hb:=Jc3 B
  have h0:Ja2 (-Ja2 B)=-Ja2 B:=Jc1 (by omega)
  have h1:=Jc5 hr
  have h2:Ja2 0=0:=by decide
  refine Jc5 ?_
  unfold Jf3
  rw [h0]
  exact Jc5 (by omega)
 split
 ·exact List.Pairwise.nil
 exact List.Pairwise.cons (fun t ht=>by cases ht) List.Pairwise.nil
theorem Vc0 (r:RY)(mv:Nat->MV)(near far:Int)(i:Nat)(t:Int)(h:Hq r mv near far i=some t):t<=far:=(Vq6 h).2.1
open Classical in
theorem Xo9 (r:RY)(mv:Nat->MV)(near far:Int)(i:Nat)(t:Int)(h:Hq r mv near far i=some t):Ko3 (atM (mv i) r.part) r near far t:=by
 obtain ⟨h1,h2,h3,_⟩:=Vq6 h
 exact ⟨h1,h2,of_decide_eq_true h3⟩
theorem Xc5 (r:RY)(mv:Nat->MV){near far far':Int}(h:far'<=far)(i:Nat):Hq r mv near far' i=(Hq r mv near far i).filter fun t=>decide (t<=far'):=Qf5 h (Qa8 r _)
theorem Qw1 {r:RY}{mv:Nat->MV}{near far far':Int}{p:PR}{i:Nat}{t:Int}(hc:∀ u q,Ka1 (atP (prM mv i) u) q->Ka1 (atP p u) q)(hm:¬Jq8 (atP p r.part) (Jw3 r near far'))(h:Hq r mv near far i=some t):far'<t:=by
 refine Int.not_le.1 fun hle=>hm ?_
 obtain ⟨h1,h2,h3⟩:=Xo9 r mv near far i t h
 exact Vg8 (hc _ _ (Vx3 (ry_b r t) h3)) (Ve0 r (Int.le_of_lt h1) hle)
def Ju6 (l:List ND)(i:Nat):ND:=(l[i]?).getD ⟨⟨⟨fun _=>0,fun _=>0⟩,⟨fun _=>0,fun _=>0⟩⟩,-1,-1,0,0⟩
def Xc9 (prs:Nat->PR)(l:List ND)(o:List Nat)(at' x:Nat):Prop:=∀ i u q,o[x]?=some i->Ka1 (atP (prs i) u) q->Ka1 (atP (Ju6 l at').p u) q
theorem Qw2 {l:List ND}{C:Nat->Nat->Prop}{t:TR}{a b:Nat}(h:Fit (Ju6 l) C t a b):t.root<l.length:=by
 refine Classical.byContradiction fun hn=>?_
 have e:Ju6 l t.root=⟨⟨⟨fun _=>0,fun _=>0⟩,⟨fun _=>0,fun _=>0⟩⟩,-1,-1,0,0⟩:=by unfold Ju6;rw [List.getElem?_eq_none (by omega)];rfl
 cases h with
 | leaf at' _ _ h1 _ _ hc _=>have e:Ju6 l at'=_:=e;rw [e] at hc;have hc:(0:Int)=_:=hc;omega
 | node at' l' r' _ _ _ hc hl hr _ _ _=>have e:Ju6 l at'=_:=e;rw [e] at hl;have hl:(-1:Int)=_:=hl;omega
theorem Vg2 {l:List ND}{i:Nat}(h:i<l.length):Ju6 l i=l.getD i nd0:=by unfold Ju6;rw [List.getD_eq_getElem?_getD,List.getElem?_eq_getElem h];rfl
theorem Vd4 (prs:Nat->PR){n:Nat}(h0:0<n):∃ t,Fit (Ju6 (Jh1 prs n).2) (Xc9 prs (Jh1 prs n).2 (Jh1 prs n).1) t 0 n/\t.root=0/\(Jh1 prs n).1.Perm (List.range n)/\(Jh1 prs n).1.length=n/\0<(Jh1 prs n).2.length/\(Jh1 prs n).2.length<=2*n:=by
 have k:=Jw7 (prs:=prs) (mid:=Qp1 prs) n 0 n (List.range n,[]) (by omega) h0 (by simp)
 have c:=Jq6 (prs:=prs) (mid:=Qp1 prs) n 0 n (List.range n,[]) (by omega) h0 (by simp)
 have e:Jp5 prs (Qp1 prs) n 0 n (List.range n,[])=Jh1 prs n:=rfl
 rw [e] at k c
 have hl:(Jh1 prs n).1.length=n:=k.len.trans (by simp)
 obtain ⟨t,h1,h2⟩:=k.fit (Jh1 prs n).1 (Ju6 (Jh1 prs n).2) (List.Perm.refl _) (fun _ _ _=>rfl) (fun i nd _ hi=>by unfold Ju6;rw [hi];rfl)
 refine ⟨t,h1,h2,?_,hl,k.lt,by have:(Jh1 prs n).2.length+1<=0+2*(n - 0):=c;omega⟩
 have:=k.same.1
 have e1:Ji2 (List.range n) 0 n=List.range n:=by unfold Ji2;rw [List.drop_zero,Nat.sub_zero];exact List.take_of_length_le (by simp)
 have e2:Ji2 (Jh1 prs n).1 0 n=(Jh1 prs n).1:=by unfold Ji2;rw [List.drop_zero,Nat.sub_zero];exact List.take_of_length_le (by omega)
 have this:(Ji2 (List.range n) 0 n).Perm (Ji2 (Jh1 prs n).1 0 n):=this
 rw [e1,e2] at this
 exact this.symm
structure VW where
 (e f r u:V) (wd w h:Int)
def vwC (v:VW):List CV:=c3C v.e++(c3C v.f++(c3C v.r++(c3C v.u++[.int .i64 v.wd,.int .i64 v.w,.int .i64 v.h])))
theorem Vo2 (v:VW):vwC v=[.int .i64 (v.e 0),.int .i64 (v.e 1),.int .i64 (v.e 2),.int .i64 (v.f 0),.int .i64 (v.f 1),.int .i64 (v.f 2),.int .i64 (v.r 0),.int .i64 (v.r 1),.int .i64 (v.r 2),.int .i64 (v.u 0),.int .i64 (v.u 1),.int .i64 (v.u 2),.int .i64 (v.wd),.int .i64 (v.w),.int .i64 (v.h)]:=rfl
def orV (a b:V):V:=if z3 a=true then b else a
noncomputable def Xd4 (s:SC)(x:Int):V:=orV (Jb9 (Jb2 (Jh8 s s.lk x) (Jh8 s s.ey x))) (v3V 0 0 65536)
noncomputable def rgtV (f:V):V:=orV (Jb9 (Jd1 (v3V 0 65536 0) f)) (v3V 65536 0 0)
noncomputable def Jm7 (s:SC)(x:Int):VW:=⟨Jh8 s s.ey x,Xd4 s x,rgtV (Xd4 s x),Jd1 (Xd4 s x) (rgtV (Xd4 s x)),s.wd,s.w,s.h⟩
theorem or_t (a b:V)(m:Ja1)(g:(a 0 ==0&&(a 1 ==0&&a 2 ==0))=true):Ctr Tryz.prog 105 [.agg (c3C a),.agg (c3C b)] m (.agg (c3C (orV a b))) m:=by
 refine Ctr.en Tryz.func105 [.cell 4 59] 10 fun hwf Q hQ=>?_
 have hv:orV a b=b:=if_pos g
 rw [hv] at hQ
 have U1:=ca2 @Ja6 g
 exact AW.f U1 Tru
theorem or_f (a b:V)(m:Ja1)(g:(a 0 ==0&&(a 1 ==0&&a 2 ==0))=false):Ctr Tryz.prog 105 [.agg (c3C a),.agg (c3C b)] m (.agg (c3C (orV a b))) m:=by
 refine Ctr.en Tryz.func105 [.cell 4 59] 10 fun hwf Q hQ=>?_
 have hv:orV a b=a:=if_neg (by show ¬(a 0 ==0&&(a 1 ==0&&a 2 ==0))=true;rw [g];decide)
 rw [hv] at hQ
 have U2:=ca2 @Ja6 g
 exact AW.f U2 Tru
theorem or_c (a b:V)(m:Ja1):Ctr Tryz.prog 105 [.agg (c3C a),.agg (c3C b)] m (.agg (c3C (orV a b))) m:=by
 cases g:(a 0 ==0&&(a 1 ==0&&a 2 ==0))
 ·exact or_f a b m g
 exact or_t a b m g
theorem Qc0 (s:SC)(R:RWs)(x:Int)(m:Ja1)(hR:ScR 140 119 223 148 155 m s R)(hT:∀ i,i<s.nt->TrS s i):Ctr Tryz.prog 39 [.agg (scC s R),.one (.int .i64 x)] m (.agg (vwC (Jm7 s x))) m:=by
 refine Ctr.en Tryz.func39 [.cell 4 90] 44 fun hwf Q hQ=>?_
 obtain ⟨F,hF⟩:∃ F,F=Xd4 s x:=⟨_,rfl⟩
 obtain ⟨G,hG⟩:∃ G,G=rgtV F:=⟨_,rfl⟩
 have hv:vwC (Jm7 s x)=c3C (Jh8 s s.ey x)++(c3C F++(c3C G++(c3C (Jd1 F G)++[.int .i64 s.wd,.int .i64 s.w,.int .i64 s.h]))):=by rw [hG,hF];rfl
 rw [hv] at hQ
 have U3:=ca4 @Je1 @Jd8 @Je0 @Ja6
 refine AW.wd [[.rd 0,.val,.ext,.val,.val,.rd 0,.val,.val,.rd 0,.val,.val,.rd 0,.val,.fl,.wr]] 2 U3 (eye_c s R x _ (hR.app _) hT) ?_
 have q_1:=or_c (Jb9 (Jb2 (Jh8 s s.lk x) (Jh8 s s.ey x))) (v3V 0 0 65536)
 rw [show orV (Jb9 (Jb2 (Jh8 s s.lk x) (Jh8 s s.ey x))) (v3V 0 0 65536)=F from hF.symm] at q_1
 refine AW.d [.rd 0,.val,.ext,.val,.rd 0,.ext,.ext,.ext,.ext,.val,.wr] fol U3 (ca4 (Xi4 s R x _ (hR.app _) hT) (Ji0 (Jh8 s s.lk x) (Jh8 s s.ey x)) (Jo6 (Jb2 (Jh8 s s.lk x) (Jh8 s s.ey x))) (ca2 Kv6 q_1)) ?_
 have q_2:=or_c (Jb9 (Jd1 (v3V 0 65536 0) F)) (v3V 65536 0 0)
 rw [show orV (Jb9 (Jd1 (v3V 0 65536 0) F)) (v3V 65536 0 0)=G from hG.symm] at q_2
 exact AW.fd [[.ext,.val,.rd 0,.ext,.ext,.ext,.ext,.val,.wr]] U3 (ca4 Kv6 (Jj6 (v3V 0 65536 0) F) (Jo6 (Jd1 (v3V 0 65536 0) F)) (ca2 q_2 (Jj6 F G)))
theorem Ky9 (s:SC)(R:RWs)(x:Int)(m:Ja1)(hR:ScR 138 143 285 146 150 m s R)(hT:∀ i,i<s.nt->TrS s i)(hE:s.ey<(s.nt:Int))(hL:s.lk<(s.nt:Int)):Ctr Tryz.prog 25 [.agg (scC s R),.one (.int .i64 x)] m (.agg (vwC (Jm7 s x))) m:=by
 refine Ctr.en Tryz.func25 [.cell 4 87] 55 fun hwf Q hQ=>?_
 obtain ⟨F,hF⟩:∃ F,F=Xd4 s x:=⟨_,rfl⟩
 obtain ⟨G,hG⟩:∃ G,G=rgtV F:=⟨_,rfl⟩
 have hv:vwC (Jm7 s x)=c3C (Jh8 s s.ey x)++(c3C F++(c3C G++(c3C (Jd1 F G)++[.int .i64 s.wd,.int .i64 s.w,.int .i64 s.h]))):=by rw [hG,hF];rfl
 rw [hv] at hQ
 have U4:=ca4 @Je1 @Jd8 @Je0 @Ja6
 refine AW.wd [[.rd 0,.val,.rd 0,.val,.ext,.val,.rd 0,.val,.val,.rd 0,.val,.val,.rd 0,.val,.fl,.wr],[.rd 0,.val,.rd 0,.val,.ext,.val,.rd 0,.ext,.ext,.val,.wr]] 5 U4 (ca4 (Qd0 s R s.ey x _ (hR.app _) hT hE) (Qd0 s R s.lk x _ (hR.app _) hT hL) (Xf8 (Jh8 s s.lk x) (Jh8 s s.ey x)) (Qt2 (Jb2 (Jh8 s s.lk x) (Jh8 s s.ey x)))) fun K J0=>?_
 refine AW.condJ rfl [4,5] [] [(m.length+2,⟨.fix,87,0,0,[.int .i64 (Jh8 s s.ey x 0),.int .i64 (Jh8 s s.ey x 1),.int .i64 (Jh8 s s.ey x 2),.int .i64 (F 0),.int .i64 (F 1),.int .i64 (F 2),.int .i64 0,.int .i64 0,.int .i64 0,.int .i64 0,.int .i64 0,.int .i64 0,.int .i64 s.wd,.int .i64 s.w,.int .i64 s.h]⟩)] (fun h33=>?_) (fun h33=>?_) ?_
 ·have hXe:F=v3V 0 0 65536:=by rw [hF];exact if_pos h33
  have f0:F 0=0:=by rw [hXe];rfl
  have f1:F 1=0:=by rw [hXe];rfl
  have f2:F 2=65536:=by rw [hXe];rfl
  refine AW.w 1 U4 Tru ?_
  try simp only [Jb3,Ja4,push_cast,simprocAttr,U4,f0,f1,f2]
  exact Weak.same (by simp only [KS,simprocAttr,f0,f1,f2]) (by first|rfl|simp only [KS,simprocAttr,f0,f1,f2])
 ·have hXe:F=(Jb9 (Jb2 (Jh8 s s.lk x) (Jh8 s s.ey x))):=by rw [hF];exact if_neg (fun q=>by rw [show z3 (Jb9 (Jb2 (Jh8 s s.lk x) (Jh8 s s.ey x)))=false from h33] at q;cases q)
  have f0:F 0=(Jb9 (Jb2 (Jh8 s s.lk x) (Jh8 s s.ey x))) 0:=by rw [hXe]
  have f1:F 1=(Jb9 (Jb2 (Jh8 s s.lk x) (Jh8 s s.ey x))) 1:=by rw [hXe]
  have f2:F 2=(Jb9 (Jb2 (Jh8 s s.lk x) (Jh8 s s.ey x))) 2:=by rw [hXe]
  refine AW.w 1 Tru Tru ?_
  try simp only [Jb3,Ja4,push_cast,simprocAttr,U4,f0,f1,f2]
  exact Weak.same (by simp only [KS,simprocAttr,f0,f1,f2]) (by first|rfl|simp only [KS,simprocAttr,f0,f1,f2])
 try simp only [Jb3,Ja4,push_cast,simprocAttr,U4]
 refine AW.w 4 U4 (ca2 (Qd5 (v3V 0 65536 0) F) (Qt2 (Jd1 (v3V 0 65536 0) F))) fun K J0=>?_
 refine AW.condJ rfl [4,5] [] [(m.length+2,⟨.fix,87,0,0,[.int .i64 (Jh8 s s.ey x 0),.int .i64 (Jh8 s s.ey x 1),.int .i64 (Jh8 s s.ey x 2),.int .i64 (F 0),.int .i64 (F 1),.int .i64 (F 2),.int .i64 (G 0),.int .i64 (G 1),.int .i64 (G 2),.int .i64 0,.int .i64 0,.int .i64 0,.int .i64 s.wd,.int .i64 s.w,.int .i64 s.h]⟩)] (fun h45=>?_) (fun h45=>?_) ?_
 ·have hXe:G=v3V 65536 0 0:=by rw [hG];exact if_pos h45
  have f0:G 0=65536:=by rw [hXe];rfl
  have f1:G 1=0:=by rw [hXe];rfl
  have f2:G 2=0:=by rw [hXe];rfl
  refine AW.w 1 U4 Tru ?_
  try simp only [Jb3,Ja4,push_cast,simprocAttr,U4,f0,f1,f2]
  exact Weak.same (by simp only [KS,simprocAttr,f0,f1,f2]) (by first|rfl|simp only [KS,simprocAttr,f0,f1,f2])
 ·have hXe:G=(Jb9 (Jd1 (v3V 0 65536 0) F)):=by rw [hG];exact if_neg (fun q=>by rw [show z3 (Jb9 (Jd1 (v3V 0 65536 0) F))=false from h45] at q;cases q)
  have f0:G 0=(Jb9 (Jd1 (v3V 0 65536 0) F)) 0:=by rw [hXe]
  have f1:G 1=(Jb9 (Jd1 (v3V 0 65536 0) F)) 1:=by rw [hXe]
  have f2:G 2=(Jb9 (Jd1 (v3V 0 65536 0) F)) 2:=by rw [hXe]
  refine AW.w 1 Tru Tru ?_
  try simp only [Jb3,Ja4,push_cast,simprocAttr,U4,f0,f1,f2]
  exact Weak.same (by simp only [KS,simprocAttr,f0,f1,f2]) (by first|rfl|simp only [KS,simprocAttr,f0,f1,f2])
 try simp only [Jb3,Ja4,push_cast,simprocAttr,U4]
 exact AW.f U4 (Qd5 F G)
def Xi0 (a b:VW)(t:Int):VW:=⟨Kd4 a.e b.e t,Kd4 a.f b.f t,Kd4 a.r b.r t,Kd4 a.u b.u t,a.wd,a.w,a.h⟩
theorem Ka3 (v:VW):vwC v=(c3C v.e++(c3C v.f++(c3C v.r++(c3C v.u++[.int .i64 v.wd,.int .i64 v.w,.int .i64 v.h])))):=rfl
theorem Xh8 (a b:VW)(t:Int)(m:Ja1):Ctr Tryz.prog 48 [.agg (vwC a),.agg (vwC b),.one (.int .i64 t)] m (.agg (vwC (Xi0 a b t))) m:=by
 have U1:=ca2 @Ka3 @Ja6
 exact Ctr.fd Tryz.func48 [.cell 6 90] 36 [[.val,.rd 0,.val,.rd 0,.val,.ext,.val,.rd 0,.val,.rd 0,.val,.ext,.val,.rd 0,.val,.rd 0,.val,.ext,.val,.wr,.val,.wr,.val,.wr]] U1 (ca4 (Ke0 a.e b.e t) (Ke0 a.f b.f t) (Ke0 a.r b.r t) (Ke0 a.u b.u t))
def rayX (v:VW)(x dx:Int):Int:=Jg9 (Jf3 (2*Jd0 (ofI x) (Jb8 dx)) (ofI v.w)) (ofI v.h)
def rayY (v:VW)(y dy:Int):Int:=Jg9 (Jf3 (ofI v.h) (2*Jd0 (ofI y) (Jb8 dy))) (ofI v.h)
def rayD (v:VW)(px py:Int):V:=Jf9 (Jf9 (Jf9 z0V v.f) (Je7 v.r (Jd2 px v.wd))) (Je7 v.u (Jd2 py v.wd))
noncomputable def Xd2 (v:VW)(x y dx dy part:Int):RY:=⟨v.e,orV (Jb9 (rayD v (rayX v x dx) (rayY v y dy))) v.f,part⟩
theorem Xd7 (v:VW)(x y dx dy part:Int)(m:Ja1):Ctr Tryz.prog 49 [.agg (vwC v),.one (.int .i64 x),.one (.int .i64 y),.one (.int .i64 dx),.one (.int .i64 dy),.one (.int .i64 part)] m (.agg (ryC (Xd2 v x y dx dy part))) m:=by
 refine Ctr.en Tryz.func49 [.cell 12 161] 69 fun hwf Q hQ=>?_
 obtain ⟨px,hx⟩:∃ p,rayX v x dx=p:=⟨_,rfl⟩
 obtain ⟨py,hy⟩:∃ p,rayY v y dy=p:=⟨_,rfl⟩
 have hx1:Jg9 (Jf3 (2*Jd0 (ofI x) (Jb8 dx)) (ofI v.w)) (ofI v.h)=px:=hx
 have hy1:Jg9 (Jf3 (ofI v.h) (2*Jd0 (ofI y) (Jb8 dy))) (ofI v.h)=py:=hy
 have b1:=Jc3 (Ja2 (ofI x)+Ja2 (Jb8 dx))
 have b2:=Jc3 (Ja2 (ofI y)+Ja2 (Jb8 dy))
 have w1:IntKind.i64.wrap (2*Jd0 (ofI x) (Jb8 dx))=2*Jd0 (ofI x) (Jb8 dx):=wi (by unfold Jd0;omega)
 have w2:IntKind.i64.wrap (2*Jd0 (ofI y) (Jb8 dy))=2*Jd0 (ofI y) (Jb8 dy):=wi (by unfold Jd0;omega)
 obtain ⟨D,hD⟩:∃ D,D=rayD v px py:=⟨_,rfl⟩
 obtain ⟨F,hF⟩:∃ F,F=orV (Jb9 D) v.f:=⟨_,rfl⟩
 have hv:ryC (Xd2 v x y dx dy part)=c3C v.e++(c3C F++[.int .i64 part]):=by unfold Xd2;rw [hx,hy,<-hD,<-hF];rfl
 rw [hv] at hQ
 have U3:=ca4 @Ka3 @Ja6 w1 (ca3 w2 hx1 hy1)
 refine AW.wd [[.val,.ext,.val,.ext,.ext,.val,.val,.rd 0,.ext,.ext,.val,.ext,.val]] 4 U3 (ca4 of_c Kg0 Kb9 (ca2 Kd5 Ju0)) ?_
 refine AW.q fun K J0=>?_
 refine AW.draw [.val,.rd 0,.val,.rd 0,.val,.val,.rd 0,.ext,.ext,.val,.rd 0,.val,.val,.rd 0,.ext,.ext,.ext,.ext,.fl,.wr] fol (by decide) (by kernel_rfl) ?_
 simp only [push_cast,simprocAttr,U3]
 refine DCall.z (Jm1 _ _ _) ?_
 simp only [push_cast,simprocAttr,U3]
 refine DCall.z (Jr5 v.r (Jd2 px v.wd) _) ?_
 simp only [push_cast,simprocAttr,U3]
 refine DCall.z (Jm1 _ _ _) ?_
 simp only [push_cast,simprocAttr,U3]
 refine DCall.z (Jr5 v.u (Jd2 py v.wd) _) ?_
 simp only [push_cast,simprocAttr,U3]
 refine DExt.by (by first|rfl|exact (List.append_nil _).symm|(simp only [List.append_assoc,List.cons_append,List.nil_append];rfl)) ?_
 simp only [push_cast,simprocAttr,U3]
 refine DCall.z ((by have h9:=fun M r9 q=>Ky3 r9 0 (v.f 0) (v.f 1) (v.f 2) ((Je7 v.r (Jd2 px v.wd)) 0) ((Je7 v.r (Jd2 px v.wd)) 1) ((Je7 v.r (Jd2 px v.wd)) 2) ((Je7 v.u (Jd2 py v.wd)) 0) ((Je7 v.u (Jd2 py v.wd)) 1) ((Je7 v.u (Jd2 py v.wd)) 2) M q;have e9:([.int .i64 (Jd0 (Jd0 (Jd0 0 (v.f 0)) ((Je7 v.r (Jd2 px v.wd)) 0)) ((Je7 v.u (Jd2 py v.wd)) 0)),.int .i64 (Jd0 (Jd0 (Jd0 0 (v.f 1)) ((Je7 v.r (Jd2 px v.wd)) 1)) ((Je7 v.u (Jd2 py v.wd)) 1)),.int .i64 (Jd0 (Jd0 (Jd0 0 (v.f 2)) ((Je7 v.r (Jd2 px v.wd)) 2)) ((Je7 v.u (Jd2 py v.wd)) 2))]:List CV)=c3C D:=(by rw [hD];rfl);rw [e9] at h9;exact h9 _ _ ⟨.grow,3,by simp only [push_cast,simprocAttr]⟩)) ?_
 simp only [push_cast,simprocAttr,U3]
 apply J0
 have q_1:=or_c (Jb9 D) v.f
 rw [<-hF] at q_1
 exact AW.fd [[.val,.rd 0,.rd 0,.ext,.val,.rd 0,.ext,.val,.val,.wr]] U3 (ca2 (Jo6 D) q_1)
noncomputable def Js6 (u v:Int):V:=v3V (Jd2 (Jm8 (Jf3 65536 (Jd2 (Jf3 65536 (2*Jb8 u)) (Jf3 65536 (2*Jb8 u))))) (Qh3 v)) (Jd2 (Jm8 (Jf3 65536 (Jd2 (Jf3 65536 (2*Jb8 u)) (Jf3 65536 (2*Jb8 u))))) (Jy2 v)) (Jf3 65536 (2*Jb8 u))
noncomputable def Jt9 (n:V)(u v:Int):V:=if Jf7 (Jb9 (Jf9 (Js6 u v) n)) n<=0 then n else Jb9 (Jf9 (Js6 u v) n)
theorem Qa1 (u v:Int)(m:Ja1):Ctr Tryz.prog 197 [.one (.int .i64 u),.one (.int .i64 v)] m (.agg (c3C (Js6 u v))) m:=by
 refine Ctr.en Tryz.func197 [.cell 4 59] 26 fun hwf Q hQ=>?_
 obtain ⟨z,hz⟩:∃ z,Jf3 65536 (2*Jb8 u)=z:=⟨_,rfl⟩
 have hu:=Jv6 u
 have w1:IntKind.i64.wrap (2*Jb8 u)=2*Jb8 u:=wi (by omega)
 have w2:IntKind.i64.wrap (65536 - 2*Jb8 u)=z:=by
   rw [<-hz];unfold Jf3
   rw [Jc1 (show -2147483648<=(65536:Int)/\(65536:Int)<=2147483648 by omega),Jc1 (show -2147483648<=2*Jb8 u/\2*Jb8 u<=2147483648 by omega),Jc1 (by omega)]
   exact wi (by omega)
 have hv:c3C (Js6 u v)=[.int .i64 (Jd2 (Jm8 (Jf3 65536 (Jd2 z z))) (Qh3 v)),.int .i64 (Jd2 (Jm8 (Jf3 65536 (Jd2 z z))) (Jy2 v)),.int .i64 z]:=by rw [<-hz];rfl
 rw [hv] at hQ
 have U1:=ca2 w1 hz
 exact AW.f U1 (ca4 Kg0 Kd5 Jm1 (ca4 Ku5 Qb8 Kt1 Kv6))
theorem Xk5 (n:V)(u v:Int)(m:Ja1)(g:Jf7 (Jb9 (Jf9 (Js6 u v) n)) n<=0):Ctr Tryz.prog 134 [.agg (c3C n),.one (.int .i64 u),.one (.int .i64 v)] m (.agg (c3C (Jt9 n u v))) m:=by
 refine Ctr.en Tryz.func134 [.cell 6 59] 20 fun hwf Q hQ=>?_
 have hv:Jt9 n u v=n:=if_pos g
 rw [hv] at hQ
 have U3:=ca2 @Ja6 g
 exact AW.fd [[.val,.val,.ext,.rd 0,.ext,.ext,.fl,.wr]] U3 (ca4 (Qa1 u v) (Qb2 (Js6 u v) n) (Jo6 (Jf9 (Js6 u v) n)) (Jf2 (Jb9 (Jf9 (Js6 u v) n)) n))
theorem Xk6 (n:V)(u v:Int)(m:Ja1)(g:¬Jf7 (Jb9 (Jf9 (Js6 u v) n)) n<=0):Ctr Tryz.prog 134 [.agg (c3C n),.one (.int .i64 u),.one (.int .i64 v)] m (.agg (c3C (Jt9 n u v))) m:=by
 refine Ctr.en Tryz.func134 [.cell 6 59] 20 fun hwf Q hQ=>?_
 have hv:Jt9 n u v=(Jb9 (Jf9 (Js6 u v) n)):=if_neg g
 rw [hv] at hQ
 have U4:=ca2 @Ja6 g
 exact AW.fd [[.val,.val,.ext,.rd 0,.ext,.ext,.fl,.wr]] U4 (ca4 (Qa1 u v) (Qb2 (Js6 u v) n) (Jo6 (Jf9 (Js6 u v) n)) (Jf2 (Jb9 (Jf9 (Js6 u v) n)) n))
theorem Qh1 (n:V)(u v:Int)(m:Ja1):Ctr Tryz.prog 134 [.agg (c3C n),.one (.int .i64 u),.one (.int .i64 v)] m (.agg (c3C (Jt9 n u v))) m:=by
 by_cases g:Jf7 (Jb9 (Jf9 (Js6 u v) n)) n<=0
 ·exact Xk5 n u v m g
 exact Xk6 n u v m g
def xsU (x:Int)(k:Nat):Int:=bits BinOp.xor .u64 x (x.fdiv (2 ^ min k IntKind.u64.bits))
def Qx3 (x:Int):Int:=xsU (IntKind.u64.wrap (xsU (IntKind.u64.wrap (xsU x 30*13787848793156543929)) 27*10723151780598845931)) 31
def Jw2 (h x:Int):Int:=Qx3 (IntKind.u64.wrap (h+11400714819323198485+x*11400714819323198485))
def Vj0 (a b c d e:Int):Int:=Qx3 (Jw2 (Jw2 (Jw2 (Jw2 (Jw2 5 a) b) c) d) e)
theorem Vo9 (h x:Int):IntKind.u64.wrap (IntKind.u64.wrap (h+11400714819323198485)+IntKind.u64.wrap (x*11400714819323198485))=IntKind.u64.wrap (h+11400714819323198485+x*11400714819323198485):=by
 rw [IntKind.wrap_u64,IntKind.wrap_u64,IntKind.wrap_u64,IntKind.wrap_u64];omega
theorem Xe8 (h x:Int):Qx3 (IntKind.u64.wrap (h+11400714819323198485+x*11400714819323198485))=Jw2 h x:=rfl
theorem Vt4 (a:Int):Qx3 (IntKind.u64.wrap (IntKind.u64.wrap 11400714819323198490+IntKind.u64.wrap (a*11400714819323198485)))=Jw2 5 a:=by
 have h:=Vo9 5 a
 unfold Jw2
 rw [<-h];rfl
theorem Vt6 (a:Int):Qx3 (IntKind.u64.wrap (11400714819323198490+a*11400714819323198485))=Jw2 5 a:=by
 unfold Jw2;rfl
theorem xsU_e (x:Int)(k:Nat):xsU x k=(bits BinOp.xor .u64 x (x.fdiv (2 ^ min k IntKind.u64.bits))):=rfl
theorem Xh9 (x:Int)(m:Ja1):Ctr Tryz.prog 231 [.one (.int .u64 x)] m (.one (.int .u64 (Qx3 x))) m:=by
 refine Ctr.en Tryz.func231 [.tmp 2] 19 fun hwf Q hQ=>?_
 have hv:Qx3 x=xsU (IntKind.u64.wrap (xsU (IntKind.u64.wrap (xsU x 30*13787848793156543929)) 27*10723151780598845931)) 31:=rfl
 rw [hv] at hQ
 exact AW.f @xsU_e Tru
theorem Xj0 (a b c d e:Int)(r:Nat)(m:Ja1)(hb:∃ k ez v,m[r]?=some ⟨k,22,v,ez,[.int .u64 a,.int .u64 b,.int .u64 c,.int .u64 d,.int .u64 e]⟩/\v=0):Ctr Tryz.prog 188 [.one (.sl r 0 0 5)] m (.one (.int .u64 (Vj0 a b c d e))) m:=by
 refine Ctr.en Tryz.func188 [.tmp 2] 24 fun hwf Q hQ=>?_
 obtain ⟨k0,ez,v,hb,rfl⟩:=hb
 have lb:=Ja8 hb
 have hv:Vj0 a b c d e=Qx3 (Jw2 (Jw2 (Jw2 (Jw2 (Jw2 5 a) b) c) d) e):=rfl
 rw [hv] at hQ
 have w5:IntKind.u64.wrap 5=5:=rfl
 have U1:=ca4 hb (Ja3 hb) w5 (ca4 @Vo9 @Xe8 @Vt4 @Vt6)
 refine AW.w 5 U1 Tru fun K J0=>?_
 refine AW.r 6 ?_
 iterate 5
  refine AW.w 10 U1 Xh9 ?_
 exact AW.f U1 Xh9
def Vc8 (sd a b c:Int):List CV:=[.int .u64 sd,.int .i64 a,.int .i64 b,.int .i64 c]
def Kk4 (sd a b c i:Int):Int:=Vj0 sd (IntKind.u64.wrap a) (IntKind.u64.wrap b) (IntKind.u64.wrap c) (IntKind.u64.wrap i)
theorem Qe8 (sd a b c:Int):Vc8 sd a b c=([.int .u64 sd,.int .i64 a,.int .i64 b,.int .i64 c]):=rfl
theorem Vr4 (sd a b c i:Int)(m:Ja1):Ctr Tryz.prog 112 [.agg (Vc8 sd a b c),.one (.int .i64 i)] m (.one (.int .u64 (Kk4 sd a b c i))) m:=by
 refine Ctr.en Tryz.func112 [.tmp 4] 20 fun hwf Q hQ=>?_
 have hv:Kk4 sd a b c i=Vj0 sd (IntKind.u64.wrap a) (IntKind.u64.wrap b) (IntKind.u64.wrap c) (IntKind.u64.wrap i):=rfl
 rw [hv] at hQ
 refine AW.sr 2 fun K J0=>?_
 simp only [push_cast,simprocAttr,Vc8]
 refine CThen.by (Xj0 sd (IntKind.u64.wrap a) (IntKind.u64.wrap b) (IntKind.u64.wrap c) (IntKind.u64.wrap i) _ _ ⟨.grow,1,0,by simp only [push_cast,simprocAttr],rfl⟩) ?_
 simp only [push_cast,simprocAttr,Vc8]
 exact AW.f @Qe8 Tru
theorem mix_b (x:Int):0<=Qx3 x/\Qx3 x<18446744073709551616:=by
 unfold Qx3 xsU bits
 rw [IntKind.wrap_u64];omega
theorem Vr5 (sd a b c i:Int):0<=Kk4 sd a b c i/\Kk4 sd a b c i<18446744073709551616:=mix_b _
def Vm4 (sd a b c i:Int):Int:=Kk4 sd a b c i / 281474976710656
theorem Va0 (sd a b c i:Int)(m:Ja1):Ctr Tryz.prog 47 [.agg (Vc8 sd a b c),.one (.int .i64 i)] m (.one (.int .i64 (Vm4 sd a b c i))) m:=by
 refine Ctr.en Tryz.func47 [.tmp 4] 10 fun hwf Q hQ=>?_
 obtain ⟨z,hz⟩:∃ z,Kk4 sd a b c i=z:=⟨_,rfl⟩
 have hb:=Vr5 sd a b c i
 rw [hz] at hb
 have hd:Vm4 sd a b c i=z / 281474976710656:=by unfold Vm4;rw [hz]
 rw [hd] at hQ
 have k1:z.fdiv (2 ^ min 48 IntKind.u64.bits)=z / 281474976710656:=Int.fdiv_eq_ediv_of_nonneg z (by decide)
 have k2:z.tdiv 281474976710656=z / 281474976710656:=Int.tdiv_eq_ediv_of_nonneg hb.1
 have k3:IntKind.u64.wrap (z / 281474976710656)=z / 281474976710656:=by rw [IntKind.wrap_u64];omega
 have k4:IntKind.i64.wrap (z / 281474976710656)=z / 281474976710656:=wi (by omega)
 have U1:=ca4 @Qe8 hz k1 (ca3 k2 k3 k4)
 exact AW.f U1 (Vr4 sd a b c i)
structure PixE (v:VW)(p:V)(Z A B X Y:Int):Prop where
 hZ:Jd2 (Jf7 (Jb2 p v.e) v.f) v.wd=Z
 hA:Jd2 (Jg9 (Jf7 (Jb2 p v.e) v.r) Z) (ofI v.h)=A
 hB:Jd2 (Jg9 (Jf7 (Jb2 p v.e) v.u) Z) (ofI v.h)=B
 hX:Ja2 (Jg9 (Jd0 A (ofI v.w)) 131072) / 65536=X
 hY:Ja2 (Jg9 (Jf3 (ofI v.h) B) 131072) / 65536=Y
def Jf6 (a b:V):V:=fun k=>Jd2 (a k) (b k)
def Jt6 (a:V)(n:Int):V:=fun k=>if n<1 then 0 else Jg9 (a k) (ofI n)
theorem Qy8 (f:Int->Int->Int)(g:Nat)(a b:V)(m:Ja1)(hf:∀ p q L,Ctr Tryz.prog g [.one (.int .i64 p),.one (.int .i64 q)] (m++L) (.one (.int .i64 (f p q))) (m++L)):Ctr Tryz.prog 129 [.agg (c3C a),.agg (c3C b),.one (.fn g [])] m (.agg (c3C (fun k=>f (a k) (b k)))) m:=by
 refine Ctr.en Tryz.func129 [.cell 6 42] 26 fun hwf Q hQ=>?_
 refine AW.sr 1 fun K J0=>?_
 simp only [push_cast,simprocAttr,c3C,Ji9]
 apply J0
 refine AW.q fun K J0=>?_
 refine AW.draw [.val,.val,.rd 0,.val,.rd 0,.ext,.val,.val,.rd 0,.val,.rd 0,.ext,.val,.val,.rd 0,.val,.rd 0,.ext,.val,.wr] fol (by decide) (by kernel_rfl) ?_
 iterate 3
  simp only [push_cast,simprocAttr,c3C,Ji9]
  refine DCall.z (hf _ _ _) ?_
 simp only [push_cast,simprocAttr,c3C,Ji9]
 exact AW.f Tru Tru
theorem Qf8 (a b:V)(m:Ja1):Ctr Tryz.prog 51 [.agg (c3C a),.agg (c3C b)] m (.agg (c3C (Jf9 a b))) m:=by
 exact Ctr.f Tryz.func51 [.cell 4 42] 8 @Ja6 (Qy8 Jd0 117 a b _ (fun p q L=>Kb9 p q _))
theorem Ki9 (a b:V)(m:Ja1):Ctr Tryz.prog 52 [.agg (c3C a),.agg (c3C b)] m (.agg (c3C (Jf6 a b))) m:=by
 exact Ctr.f Tryz.func52 [.cell 4 42] 8 @Ja6 (Qy8 Jd2 121 a b _ (fun p q L=>Jm1 p q _))
theorem Kr7 (x:Int)(m:Ja1):Ctr Tryz.prog 33 [.one (.int .i64 x)] m (.agg (c3C (fun _=>x))) m:=by
 exact Ctr.f Tryz.func33 [.cell 2 42] 7 @Ja6 Tru
theorem Qf4 (a:V)(x:Int)(m:Ja1):Ctr Tryz.prog 133 [.agg (c3C a),.one (.int .i64 x)] m (.agg (c3C (Je7 a x))) m:=by
 exact Ctr.fd Tryz.func133 [.cell 4 42] 9 [[.rd 0,.val,.ext,.ext,.wr]] @Ja6 (ca2 (Kr7 x) (Ki9 a (fun _=>x)))
theorem Vy5 (a:V)(n:Int)(m:Ja1)(g:n<1):Ctr Tryz.prog 66 [.agg (c3C a),.one (.int .i64 n)] m (.agg (c3C (Jt6 a n))) m:=by
 refine Ctr.en Tryz.func66 [.cell 4 42] 24 fun hwf Q hQ=>?_
 have hv:c3C (Jt6 a n)=[.int .i64 0,.int .i64 0,.int .i64 0]:=by unfold c3C Jt6;simp only [g,if_true]
 rw [hv] at hQ
 have U1:=ca2 @Ja6 g
 exact AW.f U1 Tru
theorem Vy6 (a:V)(n:Int)(m:Ja1)(g:¬n<1):Ctr Tryz.prog 66 [.agg (c3C a),.one (.int .i64 n)] m (.agg (c3C (Jt6 a n))) m:=by
 refine Ctr.en Tryz.func66 [.cell 4 42] 24 fun hwf Q hQ=>?_
 have hv:c3C (Jt6 a n)=[.int .i64 (Jg9 (a 0) (ofI n)),.int .i64 (Jg9 (a 1) (ofI n)),.int .i64 (Jg9 (a 2) (ofI n))]:=by unfold c3C Jt6;simp only [g,if_false]
 rw [hv] at hQ
 have U3:=ca2 @Ja6 g
 exact AW.fd [[.val,.rd 0,.val,.ext,.val,.rd 0,.val,.ext,.val,.rd 0,.val,.ext,.val,.wr]] U3 (ca2 of_c Ju0)
theorem Vy7 (a:V)(n:Int)(m:Ja1):Ctr Tryz.prog 66 [.agg (c3C a),.one (.int .i64 n)] m (.agg (c3C (Jt6 a n))) m:=by
 by_cases g:n<1
 ·exact Vy5 a n m g
 exact Vy6 a n m g
noncomputable def Kc4 (p n q:V):Int:=if Jf7 (Jb9 (Jb2 q p)) n<=0 then 0 else Jg9 (Jf7 (Jb9 (Jb2 q p)) n) (Jd0 65536 (Jd2 (Kf8 (Jb2 q p)) (Kf8 (Jb2 q p))))
theorem Vw0 (p n q:V)(m:Ja1)(g:Jf7 (Jb9 (Jb2 q p)) n<=0):Ctr Tryz.prog 132 [.agg (c3C p),.agg (c3C n),.agg (c3C q)] m (.tup [(true,c3C (Jb9 (Jb2 q p))),(false,[.int .i64 (Kf8 (Jb2 q p))]),(false,[.int .i64 (Kc4 p n q)])]) m:=by
 refine Ctr.en Tryz.func132 [.cell 6 59,.tmp 7,.tmp 8] 35 fun hwf Q hQ=>?_
 have hv:Kc4 p n q=0:=if_pos g
 rw [hv] at hQ
 have U1:=ca2 @Ja6 g
 exact AW.f U1 (ca4 (Ji0 q p) (Vh8 (Jb2 q p)) (Jo6 (Jb2 q p)) (Jf2 (Jb9 (Jb2 q p)) n))
theorem Vw1 (p n q:V)(m:Ja1)(g:¬Jf7 (Jb9 (Jb2 q p)) n<=0):Ctr Tryz.prog 132 [.agg (c3C p),.agg (c3C n),.agg (c3C q)] m (.tup [(true,c3C (Jb9 (Jb2 q p))),(false,[.int .i64 (Kf8 (Jb2 q p))]),(false,[.int .i64 (Kc4 p n q)])]) m:=by
 refine Ctr.en Tryz.func132 [.cell 6 59,.tmp 7,.tmp 8] 35 fun hwf Q hQ=>?_
 have hv:Kc4 p n q=Jg9 (Jf7 (Jb9 (Jb2 q p)) n) (Jd0 65536 (Jd2 (Kf8 (Jb2 q p)) (Kf8 (Jb2 q p)))):=if_neg g
 rw [hv] at hQ
 have U3:=ca2 @Ja6 g
 exact AW.fd [[.rd 0,.val,.val,.val,.val,.ext,.ext,.ext,.wr,.val,.val]] U3 (ca4 (Ji0 q p) (Vh8 (Jb2 q p)) (Jo6 (Jb2 q p)) (ca4 (Jf2 (Jb9 (Jb2 q p)) n) Jm1 Kb9 Ju0))
theorem Vw2 (p n q:V)(m:Ja1):Ctr Tryz.prog 132 [.agg (c3C p),.agg (c3C n),.agg (c3C q)] m (.tup [(true,c3C (Jb9 (Jb2 q p))),(false,[.int .i64 (Kf8 (Jb2 q p))]),(false,[.int .i64 (Kc4 p n q)])]) m:=by
 by_cases g:Jf7 (Jb9 (Jb2 q p)) n<=0
 ·exact Vw0 p n q m g
 exact Vw1 p n q m g
def Jz8 (sd a b c i n:Int):Int:=if n<1 then 0 else Kk4 sd a b c i / 2%n
theorem Xb5 (sd a b c i n:Int)(m:Ja1)(g:n<1):Ctr Tryz.prog 130 [.agg (Vc8 sd a b c),.one (.int .i64 i),.one (.int .i64 n)] m (.one (.int .i64 (Jz8 sd a b c i n))) m:=by
 refine Ctr.en Tryz.func130 [.tmp 6] 17 fun hwf Q hQ=>?_
 have hv:Jz8 sd a b c i n=0:=if_pos g
 rw [hv] at hQ
 exact AW.f g Tru
theorem Xb6 (sd a b c i n:Int)(m:Ja1)(g:¬n<1)(hn:n<=1000000000):Ctr Tryz.prog 130 [.agg (Vc8 sd a b c),.one (.int .i64 i),.one (.int .i64 n)] m (.one (.int .i64 (Jz8 sd a b c i n))) m:=by
 refine Ctr.en Tryz.func130 [.tmp 6] 17 fun hwf Q hQ=>?_
 obtain ⟨z,hz⟩:∃ z,Kk4 sd a b c i=z:=⟨_,rfl⟩
 have hb:=Vr5 sd a b c i
 rw [hz] at hb
 have hv:Jz8 sd a b c i n=z / 2%n:=by unfold Jz8;rw [if_neg g,hz]
 rw [hv] at hQ
 have m1:=Int.emod_nonneg (z / 2) (show n≠0 by omega)
 have m2:=Int.emod_lt_of_pos (z / 2) (show 0<n by omega)
 have k1:z.fdiv (2 ^ min 1 IntKind.u64.bits)=z / 2:=Int.fdiv_eq_ediv_of_nonneg z (by decide)
 have k2:z.tdiv 2=z / 2:=Int.tdiv_eq_ediv_of_nonneg hb.1
 have k3:IntKind.u64.wrap (z / 2)=z / 2:=by rw [IntKind.wrap_u64];omega
 have k4:IntKind.u64.wrap n=n:=by rw [IntKind.wrap_u64];omega
 have k5:(z / 2).tmod n=z / 2%n:=Int.tmod_eq_emod_of_nonneg (by omega)
 have k6:IntKind.u64.wrap (z / 2%n)=z / 2%n:=by rw [IntKind.wrap_u64];omega
 have k7:IntKind.i64.wrap (z / 2%n)=z / 2%n:=wi (by omega)
 have k8:¬n=0:=by omega
 have k9:(n ==0)=false:=by simp;omega
 have U1:=ca4 @Qe8 g hz (ca4 k1 k2 k3 (ca4 k4 k5 k6 (ca3 k7 k8 k9)))
 exact AW.f U1 (Vr4 sd a b c i)
theorem Xb7 (sd a b c i n:Int)(m:Ja1)(hn:n<=1000000000):Ctr Tryz.prog 130 [.agg (Vc8 sd a b c),.one (.int .i64 i),.one (.int .i64 n)] m (.one (.int .i64 (Jz8 sd a b c i n))) m:=by
 by_cases g:n<1
 ·exact Xb5 sd a b c i n m g
 exact Xb6 sd a b c i n m g hn
def Qp2 (a:V):Int:=maxI 16384 (Jb8 (maxI (maxI (a 0) (a 1)) (a 2)))
def Jv8 (a:V)(u:Int):V:=fun k=>if Qp2 a<=Jb8 u then 0 else Jg9 (a k) (Qp2 a)
theorem Vy0 (a:V)(u:Int)(m:Ja1)(g:Qp2 a<=Jb8 u):Ctr Tryz.prog 56 [.agg (c3C a),.one (.int .i64 u)] m (.tup [(true,c3C (Jv8 a u)),(false,[.bool false])]) m:=by
 refine Ctr.en Tryz.func56 [.cell 4 42,.tmp 5] 36 fun hwf Q hQ=>?_
 obtain ⟨x,hx⟩:∃ x,maxI (maxI (a 0) (a 1)) (a 2)=x:=⟨_,rfl⟩
 obtain ⟨z,hz⟩:∃ z,Qp2 a=z:=⟨_,rfl⟩
 have hz1:maxI 16384 (Jb8 x)=z:=by rw [<-hz,<-hx];rfl
 rw [hz] at g
 have hv:c3C (Jv8 a u)=[.int .i64 0,.int .i64 0,.int .i64 0]:=by unfold c3C Jv8;rw [hz];simp only [g,if_true]
 rw [hv] at hQ
 have U1:=ca4 @Ja6 hx hz1 g
 exact AW.f U1 Kg0
theorem Vy1 (a:V)(u:Int)(m:Ja1)(g:¬Qp2 a<=Jb8 u):Ctr Tryz.prog 56 [.agg (c3C a),.one (.int .i64 u)] m (.tup [(true,c3C (Jv8 a u)),(false,[.bool true])]) m:=by
 refine Ctr.en Tryz.func56 [.cell 4 42,.tmp 5] 36 fun hwf Q hQ=>?_
 obtain ⟨x,hx⟩:∃ x,maxI (maxI (a 0) (a 1)) (a 2)=x:=⟨_,rfl⟩
 obtain ⟨z,hz⟩:∃ z,Qp2 a=z:=⟨_,rfl⟩
 have hz1:maxI 16384 (Jb8 x)=z:=by rw [<-hz,<-hx];rfl
 rw [hz] at g
 have hv:c3C (Jv8 a u)=[.int .i64 (Jg9 (a 0) z),.int .i64 (Jg9 (a 1) z),.int .i64 (Jg9 (a 2) z)]:=by unfold c3C Jv8;rw [hz];simp only [g,if_false]
 rw [hv] at hQ
 have U2:=ca4 @Ja6 hx hz1 g
 exact AW.fd [[.val,.rd 0,.val,.ext,.val,.rd 0,.val,.ext,.val,.rd 0,.val,.ext,.val,.wr,.val]] U2 (ca2 Kg0 Ju0)
theorem Fit.size2 {N:Nat->ND}{C:Nat->Nat->Prop}{t:TR}{a b:Nat}(h:Fit N C t a b):t.size+1<=2*(b - a):=by
 induction h with
 | leaf _ _ _ h=>show 1+1<=_;omega
 | node _ l r _ _ _ _ _ _ fl fr _ h1 h2 =>
  have:=fl.lt
  have:=fr.lt
  show l.size+r.size+1+1<=_
  omega
theorem Qr6:∀ l:List (TR × Nat × Nat),l.length<=Jw1 l
 | []=>Nat.le_refl _
 | e::l=>by
  have:=Qr6 l
  have:=Jy1 e.1
  show l.length+1<=e.1.size+Jw1 l
  omega
structure FS where
 (q:Option (TR × Nat × Nat)) (stk:List (TR × Nat × Nat)) (b:Option (Int × Nat)) (ver cnt:Nat)
def qL:Option (TR × Nat × Nat)->List (TR × Nat × Nat)
 | none=>[]
 | some e=>[e]
def qR:Option (TR × Nat × Nat)->Nat
 | none=>0
 | some e=>e.1.root
def qZ:Option (TR × Nat × Nat)->Nat
 | none=>0
 | some e=>e.1.size - 1
def rtL (l:List (TR × Nat × Nat)):List Nat:=l.reverse.map fun e=>e.1.root
abbrev LK:=Nat->List (TR × Nat × Nat)->Option (Int × Nat)->Nat
structure FInv (N:Nat->ND)(C:Nat->Nat->Prop)(n:Nat)(o:List Nat)(H:Nat->Option Int)(tot:Nat)(lk:LK)(T:Nat)(s:FS):Prop where
 w:WInv N C n o H (qL s.q++s.stk) s.b
 z:s.q=none->s.stk=[]
 c:s.cnt+Jw1 s.stk+qZ s.q<=tot
 k:∃ f,Jw1 (qL s.q++s.stk)<=f/\s.cnt+lk f (qL s.q++s.stk) s.b=T+(qL s.q).length
def muF (s:FS):Nat:=Jw1 (qL s.q++s.stk)
theorem Ka9 (l:List (TR × Nat × Nat)):(rtL l).length=l.length:=by unfold rtL;simp
theorem Kq5 (e:TR × Nat × Nat)(l:List (TR × Nat × Nat)):rtL (e::l)=rtL l++[e.1.root]:=by unfold rtL;simp
section
variable {N:Nat->ND}{C:Nat->Nat->Prop}{n tot T:Nat}{o:List Nat}{H:Nat->Option Int}{lk:LK}{e x:TR × Nat × Nat}{stk stk':List (TR × Nat × Nat)}{b b':Option (Int × Nat)}{ver ver' cnt:Nat}
theorem FInv.step (h:FInv N C n o H tot lk T ⟨some e,stk,b,ver,cnt⟩){l:List (TR × Nat × Nat)}(hs:Jw1 l<e.1.size+Jw1 stk)(hl:∀ f,lk (f+1) (e::stk) b=1+lk f l b'):∃ f,Jw1 l<=f/\cnt+lk f l b'=T:=by
 obtain ⟨f,h1,h2⟩:=h.k
 have h1':e.1.size+Jw1 stk<=f:=h1
 have h2':cnt+lk f (e::stk) b=T+1:=h2
 obtain ⟨g,rfl⟩:∃ g,f=g+1:=⟨f - 1,by omega⟩
 rw [hl] at h2'
 exact ⟨g,by omega,by omega⟩
theorem FInv.pop0 (h:FInv N C n o H tot lk T ⟨some e,stk,b,ver,cnt⟩)(w:WInv N C n o H [] b')(hs:Jw1 []<e.1.size+Jw1 stk)(hl:∀ f,lk (f+1) (e::stk) b=1+lk f [] b'):FInv N C n o H tot lk T ⟨none,[],b',ver',cnt⟩ :=
 ⟨w,fun _=>rfl,by have:=h.c;show cnt+0+0<=tot;dsimp only at this;omega,h.step hs hl⟩
theorem FInv.pop1 (h:FInv N C n o H tot lk T ⟨some e,stk,b,ver,cnt⟩)(w:WInv N C n o H (x::stk') b')(hs:Jw1 (x::stk')<e.1.size+Jw1 stk)(hl:∀ f,lk (f+1) (e::stk) b=1+lk f (x::stk') b'):FInv N C n o H tot lk T ⟨some x,stk',b',ver',cnt+1⟩ :=
 by
  refine ⟨w,fun q=>(nomatch q),?_,?_⟩
  · have:=h.c
    have hs':x.1.size+Jw1 stk'<e.1.size+Jw1 stk:=hs
    have h1:=Jy1 x.1
    have h2:=Jy1 e.1
    have h3:cnt+Jw1 stk+(e.1.size - 1)<=tot:=this
    show cnt+1+Jw1 stk'+(x.1.size - 1)<=tot
    omega
  obtain ⟨f,h1,h2⟩:=h.step hs hl
  exact ⟨f,h1,by show cnt+1+lk f (x::stk') b'=T+1;omega⟩
end
def Qi6 (N:Nat->ND):TR->Nat
 | .leaf a=>(N a).count.toNat
 | .node _ l r=>Qi6 N l+Qi6 N r
theorem Fit.wid {N:Nat->ND}{C:Nat->Nat->Prop}{t:TR}{a b:Nat}(h:Fit N C t a b):b=a+Qi6 N t:=by
 induction h with
 | leaf _ _ _ h _ _ hc=>show _=_+(N _).count.toNat;rw [hc];omega
 | node _ l r _ _ _ _ _ _ _ _ _ h1 h2=>show _=_+(Qi6 N l+Qi6 N r);omega
open Classical in
noncomputable def Jv5 (nds:List ND)(o:List Nat)(r:RY)(mv:Nat->MV)(near far:Int):LK
 | 0,_,_=>0
 | _+1,[],_=>0
 | f+1,(t,a,c)::stk,b =>
  if ¬Jq8 (atP (Ju6 nds t.root).p r.part) (Jw3 r near (Jk9 far b)) then 1+Jv5 nds o r mv near far f stk b else
   match t with
   | .leaf _=>1+Jv5 nds o r mv near far f stk (Jn5 (Hq r mv near far) o a b (c - a))
   | .node _ l r'=>1+Jv5 nds o r mv near far f ((l,a,a+Qi6 (Ju6 nds) l)::(r',a+Qi6 (Ju6 nds) l,c)::stk) b
section
variable {nds:List ND}{o:List Nat}{r:RY}{mv:Nat->MV}{near far:Int}{f a c at':Nat}{t l r':TR}{stk:List (TR × Nat × Nat)}{b:Option (Int × Nat)}
theorem Vh6:Jv5 nds o r mv near far f [] b=0:=by cases f<;>rfl
theorem Kw1 {e:TR × Nat × Nat}(h:¬Jq8 (atP (Ju6 nds e.1.root).p r.part) (Jw3 r near (Jk9 far b))):Jv5 nds o r mv near far (f+1) (e::stk) b=1+Jv5 nds o r mv near far f stk b:=by
 obtain ⟨t,a,c⟩:=e
 exact if_pos h
theorem Kw2 (h:Jq8 (atP (Ju6 nds at').p r.part) (Jw3 r near (Jk9 far b))):Jv5 nds o r mv near far (f+1) ((.leaf at',a,c)::stk) b=1+Jv5 nds o r mv near far f stk (Jn5 (Hq r mv near far) o a b (c - a)):=if_neg (fun q=>q h)
theorem Qx6 (h:Jq8 (atP (Ju6 nds at').p r.part) (Jw3 r near (Jk9 far b))):Jv5 nds o r mv near far (f+1) ((.node at' l r',a,c)::stk) b=1+Jv5 nds o r mv near far f ((l,a,a+Qi6 (Ju6 nds) l)::(r',a+Qi6 (Ju6 nds) l,c)::stk) b:=if_neg (fun q=>q h)
end
theorem Vy3 {N:Nat->ND}{C:Nat->Nat->Prop}{n:Nat}{o:List Nat}{r:RY}{mv:Nat->MV}{near far:Int}{stk:List (TR × Nat × Nat)}{b:Option (Int × Nat)}(h:WInv N C n o (Hq r mv near far) stk b)(a k:Nat):Jk9 far (Jn5 (Hq r mv near far) o a b k)<=far:=by
 obtain ⟨V,h1,_⟩:=h.ex
 exact Vi2 (Vc0 r mv near far) h1 k
theorem Qm2 (r:RY)(mv:Nat->MV)(near far:Int)(b:Option (Int × Nat))(i:Nat)(hb:Jk9 far b<=far) :
  (Hq r mv near (Jk9 far b) i=none/\Kt0 b i (Hq r mv near far i)=b) \/
  (∃ t,Hq r mv near (Jk9 far b) i=some t/\b=none/\Kt0 b i (Hq r mv near far i)=some (t,i)) \/
  (∃ t u j,Hq r mv near (Jk9 far b) i=some t/\b=some (u,j)/\t<u/\Kt0 b i (Hq r mv near far i)=some (t,i)) \/
  (∃ t u j,Hq r mv near (Jk9 far b) i=some t/\b=some (u,j)/\¬t<u/\t=u/\i<j/\Kt0 b i (Hq r mv near far i)=some (t,i)) \/
  (∃ t u j,Hq r mv near (Jk9 far b) i=some t/\b=some (u,j)/\¬t<u/\t=u/\¬i<j/\Kt0 b i (Hq r mv near far i)=b) \/
  (∃ t u j,Hq r mv near (Jk9 far b) i=some t/\b=some (u,j)/\¬t<u/\¬t=u/\Kt0 b i (Hq r mv near far i)=b):=by
 have e:Kt0 b i (Hq r mv near (Jk9 far b) i)=Kt0 b i (Hq r mv near far i):=by
  rw [Xc5 r mv hb i];exact Vn0 (S:=fun _=>True) (Vc0 r mv near far) i
 rw [<-e]
 cases h:Hq r mv near (Jk9 far b) i with
 | none=>exact .inl ⟨rfl,rfl⟩
 | some t =>
  match b with
  | none=>exact .inr (.inl ⟨t,rfl,rfl,rfl⟩)
  | some (u,j) =>
   by_cases g:t<u
   ·exact .inr (.inr (.inl ⟨t,u,j,rfl,rfl,g,if_pos (.inl g)⟩))
   by_cases g2:t=u
   ·by_cases g3:i<j
    ·exact .inr (.inr (.inr (.inl ⟨t,u,j,rfl,rfl,g,g2,g3,if_pos (.inr ⟨g2,g3⟩)⟩)))
    exact .inr (.inr (.inr (.inr (.inl ⟨t,u,j,rfl,rfl,g,g2,g3,if_neg (fun q=>q.elim g fun q=>g3 q.2)⟩))))
   exact .inr (.inr (.inr (.inr (.inr ⟨t,u,j,rfl,rfl,g,g2,if_neg (fun q=>q.elim g fun q=>g2 q.1)⟩))))
theorem WInv.missN {nds:List ND}{n:Nat}{o:List Nat}{r:RY}{mv:Nat->MV}{near far:Int}{e:TR × Nat × Nat}{stk:List (TR × Nat × Nat)}{b:Option (Int × Nat)}
  (h:WInv (Ju6 nds) (Xc9 (prM mv) nds o) n o (Hq r mv near far) (e::stk) b) (hm:¬Jq8 (atP (Ju6 nds e.1.root).p r.part) (Jw3 r near (Jk9 far b))):WInv (Ju6 nds) (Xc9 (prM mv) nds o) n o (Hq r mv near far) stk b:=by
 obtain ⟨t,a,c⟩:=e
 refine h.miss (Vc0 r mv near far) fun x i h1 h2 hx u hu=>?_
 have hc:=(h.fit _ List.mem_cons_self).1.cov x h1 h2
 exact Qw1 (fun u q hq=>hc i u q hx hq) hm hu
theorem WInv.kinds {N:Nat->ND}{C:Nat->Nat->Prop}{n:Nat}{o:List Nat}{H:Nat->Option Int}{e:TR × Nat × Nat}{stk:List (TR × Nat × Nat)}{b:Option (Int × Nat)}(h:WInv N C n o H (e::stk) b) :
  (∃ at' a c,e=(.leaf at',a,c)/\(N at').first=(a:Int)/\(N at').count=((c - a:Nat):Int)/\a<c/\c<=a+4/\c<=n) \/
  (∃ at' l r a m c,e=(.node at' l r,a,c)/\(N at').count=0/\(N at').left=(l.root:Int)/\(N at').right=(r.root:Int)/\m=a+Qi6 N l/\WInv N C n o H ((l,a,m)::(r,m,c)::stk) b):=by
 obtain ⟨t,a,c⟩:=e
 have h0:=h.fit _ List.mem_cons_self
 cases h1:t with
 | leaf at' =>
  subst h1
  obtain ⟨f0,f1⟩:=h0
  cases f0 with
  | leaf _ _ _ q1 q2 q3 q4 _=>exact .inl ⟨at',a,c,rfl,q3,q4,q1,q2,f1⟩
 | node at' l r =>
  subst h1
  obtain ⟨m,hm⟩:=h.down
  obtain ⟨f0,f1⟩:=h0
  cases f0 with
  | node _ _ _ _ _ _ q1 q2 q3 _ _ _=>exact .inr ⟨at',l,r,a,m,c,rfl,q1,q2,q3,(hm.fit _ List.mem_cons_self).1.wid,hm⟩
theorem Va8 (h g:HT)(m:Ja1)(e1:h.t<g.t):Ctr Tryz.prog 128 [.agg (htC h),.agg (htC g)] m (.one (.bool true)) m:=by
 have U1:=ca3 @Jp7 @Ja6 e1
 exact Ctr.f Tryz.func128 [.tmp 4] 24 U1 Tru
theorem Kx7 (h g:HT)(m:Ja1)(e1:¬h.t<g.t)(e2:h.t=g.t):Ctr Tryz.prog 128 [.agg (htC h),.agg (htC g)] m (.one (.bool (decide (h.i<g.i)))) m:=by
 have e3:(h.t ==g.t)=true:=beq_iff_eq.2 e2
 have U2:=ca4 @Jp7 @Ja6 e1 e3
 exact Ctr.f Tryz.func128 [.tmp 4] 24 U2 Tru
theorem Va7 (h g:HT)(m:Ja1)(e1:¬h.t<g.t)(e2:¬h.t=g.t):Ctr Tryz.prog 128 [.agg (htC h),.agg (htC g)] m (.one (.bool false)) m:=by
 have e3:(h.t ==g.t)=false:=by simpa using e2
 have U3:=ca4 @Jp7 @Ja6 e1 e3
 exact Ctr.f Tryz.func128 [.tmp 4] 24 U3 Tru
theorem Qf1 (p:PR)(a b c d:Int)(m:Ja1):Ctr Tryz.prog 126 [.agg (prC p++[.int .i64 a,.int .i64 b,.int .i64 c,.int .i64 d])] m (.one (.bool (decide (0<d)))) m:=by
 have U4:=ca3 @Kb2 @Je9 @Ja6
 exact Ctr.f Tryz.func126 [.tmp 2] 6 U4 Tru
theorem Vz3 (r:RY)(mv:Nat->MV)(nb nv ob ov sb sv n T:Nat)(t:TR)(nds:List ND)(o:List Nat)(near far:Int)(m:Ja1)(hnb:∃ k ez,m[nb]?=some ⟨k,255,nv,ez,ndL nds⟩)(hob:∃ k ez,m[ob]?=some ⟨k,3,ov,ez,iC o⟩)(hsb:∃ k ez,m[sb]?=some ⟨k,204,sv,ez,Jb0 n (mF mv)⟩)(hn:n<=400000)(hnl:nds.length<=2000000)(hfit:Fit (Ju6 nds) (Xc9 (prM mv) nds o) t 0 n)(hrt:t.root=0)(hop:o.Perm (List.range n))(hT:Jv5 nds o r mv near far (2*n) [(t,0,n)] none=T):Ctr Tryz.prog 50 [.agg [.sl nb nv 0 nds.length,.sl ob ov 0 n,.sl sb sv 0 n],.agg (ryC r),.one (.int .i64 near),.one (.int .i64 far)] m (.tup [(true,htC (Jg5 r mv (Jv3 (Hq r mv near far) n))),(false,[.bool (Jv3 (Hq r mv near far) n).isSome]),(false,[.int .i64 (T:Int)])]) m:=by
 refine Ctr.en Tryz.func50 [.cell 8 165,.tmp 9,.tmp 10] 124 fun hwf Q hQ=>?_
 obtain ⟨kn,en,hnb⟩:=hnb
 obtain ⟨ko,eo,hob⟩:=hob
 obtain ⟨ks,es,hsb⟩:=hsb
 have ln:=Ja8 hnb
 have lo:=Ja8 hob
 have ls:=Ja8 hsb
 have hol:o.length=n:=by have:=hop.length_eq;simpa using this
 have nl:=Kh7 nds
 have oc:(iC o).length=n:=by rw [Jf5,hol]
 have sc:(Jb0 n (mF mv)).length=n*24:=Ja5 (w:=24) (F:=mF mv) (fun _=>rfl) _
 have h0:0<nds.length:=by have:=Qw2 hfit;omega
 have hz0:((nds.length:Int) ==0)=false:=by rw [beq_eq_false_iff_ne];omega
 have hsz:=hfit.size2
 have hpz:=Jy1 t
 have hq0:qR (some (t,0,n))=0:=hrt
 have hI0:FInv (Ju6 nds) (Xc9 (prM mv) nds o) n o (Hq r mv near far) (2*n) (Jv5 nds o r mv near far) T ⟨some (t,0,n),[],none,0,1⟩ :=
   ⟨WInv.start hfit hol,fun q=>(nomatch q),by show 1+0+(t.size - 1)<=2*n;omega,2*n,by show t.size+0<=2*n;omega,by show 1+Jv5 nds o r mv near far (2*n) [(t,0,n)] none=T+1;omega⟩
 have U5:=ca4 hnb (Ja3 hnb) hob (ca4 (Ja3 hob) hsb (Ja3 hsb) (ca4 nl oc sc (ca3 hz0 @Jo2 @Ja6)))
 refine AW.c 3 U5 Tru ?_
 refine AW.q fun K J0=>?_
 refine AW.c 1 U5 Tru ?_
 apply AW.x rfl
 apply AW.z
 apply J0
 refine AW.c 1 U5 Tru ?_
 refine AW.q fun K J0=>?_
 refine AW.sr 1 fun K J1=>?_
 simp only [push_cast,simprocAttr,U5]
 refine CThen.by (Kr1 (m.length+5) (m.length+4) 0 0 [] 0 _ (by (simp only [push_cast,simprocAttr])<;>rfl) (by (simp only [push_cast,simprocAttr])<;>rfl) (by omega) (by omega) (by simp)) ?_
 simp only [push_cast,simprocAttr,U5]
 apply J1
 apply AW.b
 refine AW.loopK [2,4,5,8,11,13] (fun s=>FInv (Ju6 nds) (Xc9 (prM mv) nds o) n o (Hq r mv near far) (2*n) (Jv5 nds o r mv near far) T s) (fun s=>[(3,.one (.int .i64 (Jk9 far s.b))),(12,.one (.bool s.b.isSome)),(14,.one (.int .i64 (((qR s.q:Nat):Int)))),(15,.one (.bool s.q.isSome))]) (fun s=>[(m.length+3,⟨.fix,165,0,0,[.int .i64 (Jg5 r mv s.b).t,.int .i64 (Jg5 r mv s.b).i,.int .i64 ((Jg5 r mv s.b).p 0),.int .i64 ((Jg5 r mv s.b).p 1),.int .i64 ((Jg5 r mv s.b).p 2),.int .i64 ((Jg5 r mv s.b).n 0),.int .i64 ((Jg5 r mv s.b).n 1),.int .i64 ((Jg5 r mv s.b).n 2)]⟩),(m.length+4,⟨.grow,3,s.ver,1,iC (rtL s.stk)⟩),(m.length+5,⟨.fix,251,0,0,[.sl (m.length+4) s.ver 0 s.stk.length,.int .i64 (s.cnt:Int)]⟩)]) (fun s=>muF s) ⟨some (t,0,n),[],none,0,1⟩ hI0 ?_ ?_ fun s hi3=>?_
 · first|rfl|(simp only [KS,simprocAttr,hq0,Jg5,ht0,z0V,Jk9,rtL,List.reverse_nil,List.map_nil,iC,Int.natCast_zero,Int.natCast_one,List.length_nil,Option.isSome_none,Option.isSome_some]<;>repeat' (first|rfl|apply And.intro))
 · (simp only [Ja4,push_cast,simprocAttr,Jg5,ht0,z0V,rtL,List.reverse_nil,List.map_nil,iC])<;>rfl
 obtain ⟨sq,stk,b,ver,cnt⟩:=s
 have hfi:=hi3
 have hcb:=hfi.c
 dsimp only at hcb hfi ⊢
 try simp only [Jb3,Ja4,push_cast,simprocAttr,U5]
 refine AW.q fun K J1=>?_
 refine AW.c 1 U5 Tru ?_
 refine AW.cond rfl (fun h35=>?_) (fun h35=>?_)
 ·obtain ⟨e,rfl⟩:=Option.isSome_iff_exists.1 h35
  have w0:WInv (Ju6 nds) (Xc9 (prM mv) nds o) n o (Hq r mv near far) (e::stk) b:=hfi.w
  have hcb2:cnt+Jw1 stk+(e.1.size - 1)<=2*n:=hcb
  have hsl:=Qr6 stk
  have hse:=Jy1 e.1
  have hlt:=Qw2 (w0.fit e List.mem_cons_self).1
  obtain ⟨nd,hnd⟩:∃ nd,nd=Ju6 nds e.1.root:=⟨_,rfl⟩
  have hq1:((qR (some e):Nat):Int)=(e.1.root:Int):=rfl
  obtain ⟨x,hx⟩:∃ x,x=e.1.root:=⟨_,rfl⟩
  have hlx:x<nds.length:=by rw [hx];exact hlt
  have ga:List.take 16 (List.drop (x*16) (ndL nds))=[.int .i64 (nd.p.a.lo 0),.int .i64 (nd.p.a.lo 1),.int .i64 (nd.p.a.lo 2),.int .i64 (nd.p.a.hi 0),.int .i64 (nd.p.a.hi 1),.int .i64 (nd.p.a.hi 2),.int .i64 (nd.p.b.lo 0),.int .i64 (nd.p.b.lo 1),.int .i64 (nd.p.b.lo 2),.int .i64 (nd.p.b.hi 0),.int .i64 (nd.p.b.hi 1),.int .i64 (nd.p.b.hi 2),.int .i64 nd.left,.int .i64 nd.right,.int .i64 nd.first,.int .i64 nd.count]:=by
    have g9:=Jb5 (w:=16) (F:=fun i=>ndC (nds.getD i nd0)) (fun _=>rfl) hlx
    have g8:nd=nds.getD x nd0:=by rw [hnd,<-hx];exact Vg2 hlx
    rw [<-g8] at g9
    exact g9
  have c1:(0:Int)<=(x:Int):=by omega
  have c2:(x:Int)<(nds.length:Int):=by omega
  have c3:x*16+16<=nds.length*16:=by omega
  rw [hq1,<-hx]
  apply AW.z
  apply J1
  refine AW.q fun K J1=>?_
  apply AW.b
  have U6:=ca4 U5 ga c1 (ca3 c2 c3 hlx)
  refine AW.c 1 U6 Tru ?_
  refine AW.q fun K J2=>?_
  refine AW.q fun K J3=>?_
  by_cases hme:Jq8 (atP (Ju6 nds e.1.root).p r.part) (Jw3 r near (Jk9 far b))
  ·have hmb:(true=true)↔Jq8 (atP nd.p r.part) (Jw3 r near (Jk9 far b)):=by rw [hnd];exact ⟨fun _=>hme,fun _=>rfl⟩
   refine AW.e [.val,.rd 0,.val,.rd 0,.ext,.rd 0,.val,.val,.ext,.ext,.val] fol U6 (ca3 (Xh4 nd.p r.part) (Kv0 r near (Jk9 far b)) (Qx4 (atP nd.p r.part) (Jw3 r near (Jk9 far b)) _ true hmb)) ?_
   apply J3
   apply AW.x rfl
   apply AW.z
   apply J2
   refine AW.q fun K J2=>?_
   refine AW.q fun K J3=>?_
   rcases w0.kinds with ⟨at',a,c,rfl,k1,k2,k3,k4,k5⟩|⟨at',l,r',a,m9,c,rfl,k1,k2,k3,km,w9⟩
   ·have hm2:Jq8 (atP (Ju6 nds at').p r.part) (Jw3 r near (Jk9 far b)):=by simpa [hnd,TR.root] using hme
    obtain ⟨w9,hw9⟩:∃ w,w=c - a:=⟨_,rfl⟩
    have hnc:(0:Int)<(w9:Int):=by omega
    have hnf:nd.first=(a:Int):=by rw [hnd];exact k1
    have hnt:nd.count=(w9:Int):=by rw [hnd,hw9];exact k2
    have hwa:IntKind.i64.wrap ((a:Int)+(w9:Int))=(c:Int):=by rw [show (a:Int)+(w9:Int)=(c:Int) by omega];exact wi (by omega)
    have f1:(0:Int)<=(a:Int):=by omega
    have f2:(a:Int)<=(c:Int):=by omega
    have f3:(c:Int)<=(n:Int):=by omega
    have f4:c<=n:=k5
    have f5:a<=c:=by omega
    have hca:(c:Int) - (a:Int)=(w9:Int):=by omega
    have hw8:c - a=w9:=hw9.symm
    have w1:=w0.leaf hol k3
    rw [hw8] at w1
    have U7:=ca4 U6 hnc hnf (ca4 hnt hwa f1 (ca4 f2 f3 f4 (ca3 f5 hca hw8)))
    refine AW.g U7 (Qf1 nd.p) ?_
    apply J3
    apply AW.x rfl
    apply AW.z
    apply J2
    refine AW.c 1 U7 Tru ?_
    apply AW.b
    refine AW.loopK [2,4,5,8,11,13,84,85] (fun i=>i<=w9) (fun i=>[(3,.one (.int .i64 (Jk9 far (Jn5 (Hq r mv near far) o a b i)))),(12,.one (.bool (Jn5 (Hq r mv near far) o a b i).isSome)),(86,.one (.int .i64 (i:Int)))]) (fun i=>[(m.length+3,⟨.fix,165,0,0,[.int .i64 (Jg5 r mv (Jn5 (Hq r mv near far) o a b i)).t,.int .i64 (Jg5 r mv (Jn5 (Hq r mv near far) o a b i)).i,.int .i64 ((Jg5 r mv (Jn5 (Hq r mv near far) o a b i)).p 0),.int .i64 ((Jg5 r mv (Jn5 (Hq r mv near far) o a b i)).p 1),.int .i64 ((Jg5 r mv (Jn5 (Hq r mv near far) o a b i)).p 2),.int .i64 ((Jg5 r mv (Jn5 (Hq r mv near far) o a b i)).n 0),.int .i64 ((Jg5 r mv (Jn5 (Hq r mv near far) o a b i)).n 1),.int .i64 ((Jg5 r mv (Jn5 (Hq r mv near far) o a b i)).n 2)]⟩)]) (fun i=>w9 - i) 0 (by omega) ?_ ?_ fun i hi10=>?_
    · first|rfl|(simp only [KS,simprocAttr,Jn5,Int.natCast_zero]<;>repeat' (first|rfl|apply And.intro))
    · (simp only [Ja4,push_cast,simprocAttr,Jn5])<;>rfl
    try simp only [Jb3,Ja4,push_cast,simprocAttr,U7]
    refine AW.c 1 U7 Tru ?_
    refine AW.q fun K J2=>?_
    refine AW.cond rfl (fun h87=>?_) (fun h87=>?_)
    ·have hlt:i<w9:=by have:=of_decide_eq_true h87;omega
     have c1:(0:Int)<=(i:Int):=by omega
     have c2:(i:Int)<(w9:Int):=by omega
     obtain ⟨bi,hbi⟩:∃ bi,bi=(Jn5 (Hq r mv near far) o a b i):=⟨_,rfl⟩
     have hfb:Jk9 far bi<=far:=by rw [hbi];exact Vy3 w0 a i
     have hstep0:Jn5 (Hq r mv near far) o a b (i+1)=Kt0 bi (o.getD (a+i) 0) (Hq r mv near far (o.getD (a+i) 0)):=by rw [hbi];rfl
     have z1:(0:Int)<=(i:Int):=by omega
     have z2:(i:Int)<(w9:Int):=by omega
     have z3:a+i<o.length:=by omega
     obtain ⟨i9,hi9⟩:∃ i9,i9=o.getD (a+i) 0:=⟨_,rfl⟩
     rw [<-hi9] at hstep0
     have hcx:(iC o)[a+i]?=some (.int .i64 (i9:Int)):=by rw [hi9];exact Ko6 z3
     have x1:i9<n:=by
       have hm9:i9 ∈ o:=by rw [hi9,List.getD_eq_getElem?_getD,List.getElem?_eq_getElem z3];exact List.getElem_mem _
       simpa using hop.mem_iff.1 hm9
     have x2:(0:Int)<=(i9:Int):=by omega
     have x3:(i9:Int)<(n:Int):=by omega
     have x4:i9*24+24<=n*24:=by omega
     have gs:=Jb5 (w:=24) (F:=mF mv) (fun _=>rfl) x1
     have gsx:=Xi3 mv i9
     rw [<-hbi]
     apply AW.z
     apply J2
     refine AW.q fun K J2=>?_
     apply AW.b
     have U8:=ca4 U7 hcx x1 (ca4 x2 x3 x4 (ca4 gs gsx z1 (ca2 z2 hlt)))
     refine AW.c 1 U8 Tru ?_
     refine AW.q fun K J3=>?_
     rcases Qm2 r mv near far bi i9 hfb with ⟨ho,hst⟩|⟨t9,ho,hs0,hst⟩|⟨t9,u9,j9,ho,hs0,hg,hst⟩|⟨t9,u9,j9,ho,hs0,hg,hg2,hg3,hst⟩|⟨t9,u9,j9,ho,hs0,hg,hg2,hg3,hst⟩|⟨t9,u9,j9,ho,hs0,hg,hg2,hst⟩
     all_goals (have hstep:=hstep0.trans hst)
     ·have hth:htC (Km2 r (atM (mv i9) r.part) none).1=[.int .i64 0,.int .i64 0,.int .i64 0,.int .i64 0,.int .i64 0,.int .i64 0,.int .i64 0,.int .i64 0]:=rfl
      have htb:(Km2 r (atM (mv i9) r.part) none).2=false:=rfl
      have ho9:Ka0 r (atM (mv i9) r.part) near (Jk9 far bi)=none:=ho
      have q_1:=Kn2 r (mv i9) near (Jk9 far bi)
      rw [ho9] at q_1
      have U9:=ca3 U8 hth htb
      refine AW.e [.rd 0,.val,.rd 0,.val,.val,.rd 0,.val,.val,.ext,.val,.val,.val,.fl,.wr,.val] fol U9 q_1 ?_
      apply J3
      refine AW.c 2 U9 Tru ?_
      apply AW.x rfl
      apply AW.z
      apply Ks7
      apply J2
      refine AW.g U9 Tru ?_
      apply Jo5
      have hwi:IntKind.i64.wrap ((i:Int)+1)=(i:Int)+1:=wi (by omega)
      refine ⟨i+1,by omega,by omega,?_⟩
      try simp only [Jb3,Ja4,push_cast,simprocAttr,U9,hwi,hstep]
      exact Weak.to (extra:=_) (by simp only [KS,simprocAttr,hwi,hstep]) (by first|rfl|(simp only [List.append_assoc,List.cons_append,List.nil_append];rfl)) (by first|rfl|(simp [AV.below,CV.below];done)|(simp [AV.below,CV.below];omega)) (by exact MWf.app (hwf.grow (by simp)) (Ja0 (by simp [CV.below];omega) (Ja0 rfl (Ja0 rfl (Ja0 rfl (Ja0 (Jf4 _ _) (Ja0 (by simp [CV.below]) (Ja0 rfl Jb1))))))))
     ·have hth:htC (Km2 r (atM (mv i9) r.part) (some t9)).1=[.int .i64 t9,.int .i64 0,.int .i64 (Jf0 r t9 0),.int .i64 (Jf0 r t9 1),.int .i64 (Jf0 r t9 2),.int .i64 (Jo4 r (atM (mv i9) r.part) t9 0),.int .i64 (Jo4 r (atM (mv i9) r.part) t9 1),.int .i64 (Jo4 r (atM (mv i9) r.part) t9 2)]:=rfl
      have htb:(Km2 r (atM (mv i9) r.part) (some t9)).2=true:=rfl
      have hbh:htC (Jg5 r mv (some (t9,i9)))=[.int .i64 t9,.int .i64 (i9:Int),.int .i64 (Jf0 r t9 0),.int .i64 (Jf0 r t9 1),.int .i64 (Jf0 r t9 2),.int .i64 (Jo4 r (atM (mv i9) r.part) t9 0),.int .i64 (Jo4 r (atM (mv i9) r.part) t9 1),.int .i64 (Jo4 r (atM (mv i9) r.part) t9 2)]:=rfl
      have ho9:Ka0 r (atM (mv i9) r.part) near (Jk9 far bi)=some t9:=ho
      have hfr:Jk9 far (some (t9,i9))=t9:=rfl
      have q_2:=Kn2 r (mv i9) near (Jk9 far bi)
      rw [ho9,hs0] at q_2
      have U10:=ca4 U8 hs0 hth (ca3 htb hbh hfr)
      refine AW.e [.rd 0,.val,.rd 0,.val,.val,.rd 0,.val,.val,.ext,.val,.val,.val,.fl,.wr,.val] fol U10 q_2 ?_
      apply J3
      refine AW.c 2 U10 Tru ?_
      apply AW.y rfl
      refine AW.c 1 U10 Tru ?_
      refine AW.g U10 Tru ?_
      apply Ks7
      apply J2
      refine AW.g U10 Tru ?_
      apply Jo5
      have hwi:IntKind.i64.wrap ((i:Int)+1)=(i:Int)+1:=wi (by omega)
      refine ⟨i+1,by omega,by omega,?_⟩
      try simp only [Jb3,Ja4,push_cast,simprocAttr,U10,hwi,hstep]
      exact Weak.to (extra:=_) (by simp only [KS,simprocAttr,hwi,hstep]) (by first|rfl|(simp only [List.append_assoc,List.cons_append,List.nil_append];rfl)) (by first|rfl|(simp [AV.below,CV.below];done)|(simp [AV.below,CV.below];omega)) (by exact MWf.app (hwf.grow (by simp)) (Ja0 (by simp [CV.below];omega) (Ja0 rfl (Ja0 rfl (Ja0 rfl (Ja0 (Jf4 _ _) (Ja0 (by simp [CV.below]) (Ja0 rfl Jb1))))))))
     ·have hth:htC (Km2 r (atM (mv i9) r.part) (some t9)).1=[.int .i64 t9,.int .i64 0,.int .i64 (Jf0 r t9 0),.int .i64 (Jf0 r t9 1),.int .i64 (Jf0 r t9 2),.int .i64 (Jo4 r (atM (mv i9) r.part) t9 0),.int .i64 (Jo4 r (atM (mv i9) r.part) t9 1),.int .i64 (Jo4 r (atM (mv i9) r.part) t9 2)]:=rfl
      have htb:(Km2 r (atM (mv i9) r.part) (some t9)).2=true:=rfl
      have hbh:htC (Jg5 r mv (some (t9,i9)))=[.int .i64 t9,.int .i64 (i9:Int),.int .i64 (Jf0 r t9 0),.int .i64 (Jf0 r t9 1),.int .i64 (Jf0 r t9 2),.int .i64 (Jo4 r (atM (mv i9) r.part) t9 0),.int .i64 (Jo4 r (atM (mv i9) r.part) t9 1),.int .i64 (Jo4 r (atM (mv i9) r.part) t9 2)]:=rfl
      have ho9:Ka0 r (atM (mv i9) r.part) near (Jk9 far bi)=some t9:=ho
      have hfr:Jk9 far (some (t9,i9))=t9:=rfl
      have q_3:=Kn2 r (mv i9) near (Jk9 far bi)
      rw [ho9,hs0] at q_3
      have U11:=ca4 U8 hs0 hth (ca3 htb hbh hfr)
      refine AW.e [.rd 0,.val,.rd 0,.val,.val,.rd 0,.val,.val,.ext,.val,.val,.val,.fl,.wr,.val] fol U11 q_3 ?_
      apply J3
      refine AW.c 2 U11 (Va8 ⟨t9,(i9:Int),Jf0 r t9,Jo4 r (atM (mv i9) r.part) t9⟩ (Jg5 r mv (some (u9,j9))) _ hg) ?_
      apply AW.y rfl
      refine AW.c 1 U11 Tru ?_
      refine AW.g U11 Tru ?_
      apply Ks7
      apply J2
      refine AW.g U11 Tru ?_
      apply Jo5
      have hwi:IntKind.i64.wrap ((i:Int)+1)=(i:Int)+1:=wi (by omega)
      refine ⟨i+1,by omega,by omega,?_⟩
      try simp only [Jb3,Ja4,push_cast,simprocAttr,U11,hwi,hstep]
      exact Weak.to (extra:=_) (by simp only [KS,simprocAttr,hwi,hstep]) (by first|rfl|(simp only [List.append_assoc,List.cons_append,List.nil_append];rfl)) (by first|rfl|(simp [AV.below,CV.below];done)|(simp [AV.below,CV.below];omega)) (by exact MWf.app (hwf.grow (by simp)) (Ja0 (by simp [CV.below];omega) (Ja0 rfl (Ja0 rfl (Ja0 rfl (Ja0 (Jf4 _ _) (Ja0 (by simp [CV.below]) (Ja0 rfl Jb1))))))))
     ·have hth:htC (Km2 r (atM (mv i9) r.part) (some t9)).1=[.int .i64 t9,.int .i64 0,.int .i64 (Jf0 r t9 0),.int .i64 (Jf0 r t9 1),.int .i64 (Jf0 r t9 2),.int .i64 (Jo4 r (atM (mv i9) r.part) t9 0),.int .i64 (Jo4 r (atM (mv i9) r.part) t9 1),.int .i64 (Jo4 r (atM (mv i9) r.part) t9 2)]:=rfl
      have htb:(Km2 r (atM (mv i9) r.part) (some t9)).2=true:=rfl
      have hbh:htC (Jg5 r mv (some (t9,i9)))=[.int .i64 t9,.int .i64 (i9:Int),.int .i64 (Jf0 r t9 0),.int .i64 (Jf0 r t9 1),.int .i64 (Jf0 r t9 2),.int .i64 (Jo4 r (atM (mv i9) r.part) t9 0),.int .i64 (Jo4 r (atM (mv i9) r.part) t9 1),.int .i64 (Jo4 r (atM (mv i9) r.part) t9 2)]:=rfl
      have ho9:Ka0 r (atM (mv i9) r.part) near (Jk9 far bi)=some t9:=ho
      have hfr:Jk9 far (some (t9,i9))=t9:=rfl
      have hdi:decide ((i9:Int)<(j9:Int))=true:=decide_eq_true (by omega)
      have q_4:=Kn2 r (mv i9) near (Jk9 far bi)
      rw [ho9,hs0] at q_4
      have U12:=ca4 U8 hs0 hth (ca4 htb hbh hfr hdi)
      refine AW.e [.rd 0,.val,.rd 0,.val,.val,.rd 0,.val,.val,.ext,.val,.val,.val,.fl,.wr,.val] fol U12 q_4 ?_
      apply J3
      have q_5:=Kx7 ⟨t9,(i9:Int),Jf0 r t9,Jo4 r (atM (mv i9) r.part) t9⟩ (Jg5 r mv (some (u9,j9)))
      rw [show decide (HT.i ⟨t9,(i9:Int),Jf0 r t9,Jo4 r (atM (mv i9) r.part) t9⟩ < (Jg5 r mv (some (u9,j9))).i)=true from hdi] at q_5
      refine AW.c 2 U12 (q_5 _ hg hg2) ?_
      apply AW.y rfl
      refine AW.c 1 U12 Tru ?_
      refine AW.g U12 Tru ?_
      apply Ks7
      apply J2
      refine AW.g U12 Tru ?_
      apply Jo5
      have hwi:IntKind.i64.wrap ((i:Int)+1)=(i:Int)+1:=wi (by omega)
      refine ⟨i+1,by omega,by omega,?_⟩
      try simp only [Jb3,Ja4,push_cast,simprocAttr,U12,hwi,hstep]
      exact Weak.to (extra:=_) (by simp only [KS,simprocAttr,hwi,hstep]) (by first|rfl|(simp only [List.append_assoc,List.cons_append,List.nil_append];rfl)) (by first|rfl|(simp [AV.below,CV.below];done)|(simp [AV.below,CV.below];omega)) (by exact MWf.app (hwf.grow (by simp)) (Ja0 (by simp [CV.below];omega) (Ja0 rfl (Ja0 rfl (Ja0 rfl (Ja0 (Jf4 _ _) (Ja0 (by simp [CV.below]) (Ja0 rfl Jb1))))))))
     ·have hth:htC (Km2 r (atM (mv i9) r.part) (some t9)).1=[.int .i64 t9,.int .i64 0,.int .i64 (Jf0 r t9 0),.int .i64 (Jf0 r t9 1),.int .i64 (Jf0 r t9 2),.int .i64 (Jo4 r (atM (mv i9) r.part) t9 0),.int .i64 (Jo4 r (atM (mv i9) r.part) t9 1),.int .i64 (Jo4 r (atM (mv i9) r.part) t9 2)]:=rfl
      have htb:(Km2 r (atM (mv i9) r.part) (some t9)).2=true:=rfl
      have hbh:htC (Jg5 r mv (some (t9,i9)))=[.int .i64 t9,.int .i64 (i9:Int),.int .i64 (Jf0 r t9 0),.int .i64 (Jf0 r t9 1),.int .i64 (Jf0 r t9 2),.int .i64 (Jo4 r (atM (mv i9) r.part) t9 0),.int .i64 (Jo4 r (atM (mv i9) r.part) t9 1),.int .i64 (Jo4 r (atM (mv i9) r.part) t9 2)]:=rfl
      have ho9:Ka0 r (atM (mv i9) r.part) near (Jk9 far bi)=some t9:=ho
      have hdi:decide ((i9:Int)<(j9:Int))=false:=decide_eq_false (by omega)
      have q_6:=Kn2 r (mv i9) near (Jk9 far bi)
      rw [ho9,hs0] at q_6
      have U13:=ca4 U8 hs0 hth (ca3 htb hbh hdi)
      refine AW.e [.rd 0,.val,.rd 0,.val,.val,.rd 0,.val,.val,.ext,.val,.val,.val,.fl,.wr,.val] fol U13 q_6 ?_
      apply J3
      have q_7:=Kx7 ⟨t9,(i9:Int),Jf0 r t9,Jo4 r (atM (mv i9) r.part) t9⟩ (Jg5 r mv (some (u9,j9)))
      rw [show decide (HT.i ⟨t9,(i9:Int),Jf0 r t9,Jo4 r (atM (mv i9) r.part) t9⟩ < (Jg5 r mv (some (u9,j9))).i)=false from hdi] at q_7
      refine AW.c 2 U13 (q_7 _ hg hg2) ?_
      apply AW.x rfl
      apply AW.z
      apply Ks7
      apply J2
      refine AW.g U13 Tru ?_
      apply Jo5
      have hwi:IntKind.i64.wrap ((i:Int)+1)=(i:Int)+1:=wi (by omega)
      refine ⟨i+1,by omega,by omega,?_⟩
      try simp only [Jb3,Ja4,push_cast,simprocAttr,U13,hwi,hstep]
      exact Weak.to (extra:=_) (by simp only [KS,simprocAttr,hwi,hstep]) (by first|rfl|(simp only [List.append_assoc,List.cons_append,List.nil_append];rfl)) (by first|rfl|(simp [AV.below,CV.below];done)|(simp [AV.below,CV.below];omega)) (by exact MWf.app (hwf.grow (by simp)) (Ja0 (by simp [CV.below];omega) (Ja0 rfl (Ja0 rfl (Ja0 rfl (Ja0 (Jf4 _ _) (Ja0 (by simp [CV.below]) (Ja0 rfl Jb1))))))))
     have hth:htC (Km2 r (atM (mv i9) r.part) (some t9)).1=[.int .i64 t9,.int .i64 0,.int .i64 (Jf0 r t9 0),.int .i64 (Jf0 r t9 1),.int .i64 (Jf0 r t9 2),.int .i64 (Jo4 r (atM (mv i9) r.part) t9 0),.int .i64 (Jo4 r (atM (mv i9) r.part) t9 1),.int .i64 (Jo4 r (atM (mv i9) r.part) t9 2)]:=rfl
     have htb:(Km2 r (atM (mv i9) r.part) (some t9)).2=true:=rfl
     have hbh:htC (Jg5 r mv (some (t9,i9)))=[.int .i64 t9,.int .i64 (i9:Int),.int .i64 (Jf0 r t9 0),.int .i64 (Jf0 r t9 1),.int .i64 (Jf0 r t9 2),.int .i64 (Jo4 r (atM (mv i9) r.part) t9 0),.int .i64 (Jo4 r (atM (mv i9) r.part) t9 1),.int .i64 (Jo4 r (atM (mv i9) r.part) t9 2)]:=rfl
     have ho9:Ka0 r (atM (mv i9) r.part) near (Jk9 far bi)=some t9:=ho
     have q_8:=Kn2 r (mv i9) near (Jk9 far bi)
     rw [ho9,hs0] at q_8
     have U14:=ca4 U8 hs0 hth (ca2 htb hbh)
     refine AW.e [.rd 0,.val,.rd 0,.val,.val,.rd 0,.val,.val,.ext,.val,.val,.val,.fl,.wr,.val] fol U14 q_8 ?_
     apply J3
     refine AW.c 2 U14 (Va7 ⟨t9,(i9:Int),Jf0 r t9,Jo4 r (atM (mv i9) r.part) t9⟩ (Jg5 r mv (some (u9,j9))) _ hg hg2) ?_
     apply AW.x rfl
     apply AW.z
     apply Ks7
     apply J2
     refine AW.g U14 Tru ?_
     apply Jo5
     have hwi:IntKind.i64.wrap ((i:Int)+1)=(i:Int)+1:=wi (by omega)
     refine ⟨i+1,by omega,by omega,?_⟩
     try simp only [Jb3,Ja4,push_cast,simprocAttr,U14,hwi,hstep]
     exact Weak.to (extra:=_) (by simp only [KS,simprocAttr,hwi,hstep]) (by first|rfl|(simp only [List.append_assoc,List.cons_append,List.nil_append];rfl)) (by first|rfl|(simp [AV.below,CV.below];done)|(simp [AV.below,CV.below];omega)) (by exact MWf.app (hwf.grow (by simp)) (Ja0 (by simp [CV.below];omega) (Ja0 rfl (Ja0 rfl (Ja0 rfl (Ja0 (Jf4 _ _) (Ja0 (by simp [CV.below]) (Ja0 rfl Jb1))))))))
    have hin:i=w9:=by have:=of_decide_eq_false h87;omega
    rw [hin]
    apply AW.v
    apply Kc0
    apply Kc0
    apply Jn2
    apply Ks7
    apply J1
    rcases stk with _|⟨x8,stk8⟩
    ·have hNx:=hfi.pop0 (ver':=ver) w1 (by show 0<((TR.leaf at',a,c):TR × Nat × Nat).1.size+0;omega) (fun f=>by rw [hw9];exact Kw2 hm2)
     have hmu:muF ⟨none,[],(Jn5 (Hq r mv near far) o a b w9),ver,cnt⟩ < muF ⟨some ((TR.leaf at',a,c):TR × Nat × Nat),[],b,ver,cnt⟩:=by show 0<((TR.leaf at',a,c):TR × Nat × Nat).1.size+0;omega
     refine AW.rg ?_
     simp only [push_cast,simprocAttr,U7]
     refine CThen.by (Qw4 (m.length+5) (m.length+4) ver 0 (cnt:Int) [] _ (by (simp only [push_cast,simprocAttr])<;>rfl) (by (simp only [push_cast,simprocAttr])<;>rfl) (by omega) rfl) ?_
     simp only [push_cast,simprocAttr,U7]
     apply Jo5
     refine ⟨_,hNx,hmu,?_⟩
     try simp only [Jb3,Ja4,push_cast,simprocAttr,U7,Option.isSome_none,Option.isSome_some,qR,Int.natCast_add,Int.natCast_one,List.length_cons,List.length_nil]
     exact Weak.to (extra:=_) (by simp only [KS,simprocAttr,Option.isSome_none,Option.isSome_some,qR,Int.natCast_add,Int.natCast_one,List.length_cons,List.length_nil]) (by first|rfl|(simp only [List.append_assoc,List.cons_append,List.nil_append];rfl)) (by first|rfl|(simp [AV.below,CV.below];done)|(simp [AV.below,CV.below];omega)) (by exact MWf.app (hwf.grow (by simp)) (Ja0 (by simp [CV.below];omega) (Ja0 rfl (Ja0 rfl (Ja0 rfl (Ja0 (Jf4 _ _) (Ja0 (by simp [CV.below]) Jb1)))))))
    have hNx:=hfi.pop1 (ver':=ver) w1 (by show x8.1.size+Jw1 stk8<((TR.leaf at',a,c):TR × Nat × Nat).1.size+(x8.1.size+Jw1 stk8);omega) (fun f=>by rw [hw9];exact Kw2 hm2)
    have hmu:muF ⟨some x8,stk8,(Jn5 (Hq r mv near far) o a b w9),ver,cnt+1⟩ < muF ⟨some ((TR.leaf at',a,c):TR × Nat × Nat),x8::stk8,b,ver,cnt⟩:=by show x8.1.size+Jw1 stk8<((TR.leaf at',a,c):TR × Nat × Nat).1.size+(x8.1.size+Jw1 stk8);omega
    have hl8:(x8::stk8).length=(rtL stk8).length+1:=by rw [Ka9];rfl
    have hl9:=Ka9 stk8
    have hrc:=Kq5 x8 stk8
    have hl7:stk8.length<=1000000:=by have:(x8::stk8).length<=_:=hsl;simp only [List.length_cons] at this;omega
    refine AW.rg ?_
    simp only [push_cast,simprocAttr,U7,hl8,hrc,hl9]
    refine CThen.by (Kr1 (m.length+5) (m.length+4) ver (cnt:Int) (rtL stk8) x8.1.root _ (by (simp only [push_cast,simprocAttr,hl9])<;>rfl) (by (simp only [push_cast,simprocAttr,hrc])<;>rfl) (by omega) (by omega) (by omega)) ?_
    simp only [push_cast,simprocAttr,U7,hl8,hrc,hl9]
    apply Jo5
    refine ⟨_,hNx,hmu,?_⟩
    try simp only [Jb3,Ja4,push_cast,simprocAttr,U7,hl8,hrc,hl9,Option.isSome_none,Option.isSome_some,qR,Int.natCast_add,Int.natCast_one,List.length_cons,List.length_nil]
    exact Weak.to (extra:=_) (by simp only [KS,simprocAttr,Option.isSome_none,Option.isSome_some,qR,Int.natCast_add,Int.natCast_one,List.length_cons,List.length_nil]) (by first|rfl|(simp only [List.append_assoc,List.cons_append,List.nil_append];rfl)) (by first|rfl|(simp [AV.below,CV.below];done)|(simp [AV.below,CV.below];omega)) (by exact MWf.app (hwf.grow (by simp)) (Ja0 (by simp [CV.below];omega) (Ja0 rfl (Ja0 rfl (Ja0 rfl (Ja0 (Jf4 _ _) (Ja0 (by simp [CV.below]) Jb1)))))))
   have hm2:Jq8 (atP (Ju6 nds at').p r.part) (Jw3 r near (Jk9 far b)):=by simpa [hnd,TR.root] using hme
   have hnc:¬(0:Int)<nd.count:=by rw [hnd];show ¬0<(Ju6 nds at').count;omega
   have hnl9:nd.left=(l.root:Int):=by rw [hnd];exact k2
   have hnr9:nd.right=(r'.root:Int):=by rw [hnd];exact k3
   have hsq:TR.size (.node at' l r')=l.size+r'.size+1:=rfl
   have q1:stk.length<=140737488355326:=by omega
   obtain ⟨l9,hl99⟩:∃ l9,l9=rtL stk++[r'.root]:=⟨_,rfl⟩
   have q2:(stk.length+2)*8<=140737488355328:=by omega
   have hap:iC (rtL stk)++[.int .i64 (r'.root:Int),.int .i64 (l.root:Int)]=iC (l9++[l.root]):=by rw [hl99,<-Jt5,<-Jt5,List.append_assoc];rfl
   have hgl:(iC (rtL stk)).length=stk.length:=by rw [Jf5,Ka9]
   have hl8:l9.length=stk.length+1:=by rw [hl99,List.length_append,Ka9];rfl
   subst km
   have hrc:rtL ((r',a+Qi6 (Ju6 nds) l,c)::stk)=l9:=by rw [hl99];exact Kq5 _ _
   have hNx:=hfi.pop1 (ver':=ver+1) w9 (by show l.size+(r'.size+Jw1 stk)<(l.size+r'.size+1)+Jw1 stk;omega) (fun f=>Qx6 hm2)
   have hmu:muF ⟨some (l,a,a+Qi6 (Ju6 nds) l),(r',a+Qi6 (Ju6 nds) l,c)::stk,b,ver+1,cnt+1⟩ < muF ⟨some (.node at' l r',a,c),stk,b,ver,cnt⟩:=by show l.size+(r'.size+Jw1 stk)<(l.size+r'.size+1)+Jw1 stk;omega
   have U15:=ca4 U6 hnc hnl9 (ca4 hnr9 q1 q2 (ca4 hgl hap hl8 hrc))
   refine AW.g U15 (Qf1 nd.p) ?_
   apply J3
   apply AW.y rfl
   refine AW.d [.val,.val,.val,.val,.rd 0,.val,.rd 0,.val,.rd 0,.ext,.wr,.val,.val,.wr] fol U15 Tru ?_
   apply AW.v
   apply Kc0
   apply Jn2
   apply J1
   refine AW.rg ?_
   simp only [push_cast,simprocAttr,U15]
   refine CThen.by (Kr1 (m.length+5) (m.length+4) (ver+1) (cnt:Int) l9 l.root _ (by (simp only [push_cast,simprocAttr,hl8])<;>rfl) (by (simp only [push_cast,simprocAttr,hap])<;>rfl) (by omega) (by omega) (by omega)) ?_
   simp only [push_cast,simprocAttr,U15]
   apply Jo5
   refine ⟨_,hNx,hmu,?_⟩
   try simp only [Jb3,Ja4,push_cast,simprocAttr,U15,Option.isSome_none,Option.isSome_some,qR,Int.natCast_add,Int.natCast_one,List.length_cons,List.length_nil]
   exact Weak.to (extra:=_) (by simp only [KS,simprocAttr,Option.isSome_none,Option.isSome_some,qR,Int.natCast_add,Int.natCast_one,List.length_cons,List.length_nil]) (by first|rfl|(simp only [List.append_assoc,List.cons_append,List.nil_append];rfl)) (by first|rfl|(simp [AV.below,CV.below];done)|(simp [AV.below,CV.below];omega)) (by exact MWf.app (hwf.grow (by simp)) (Ja0 (by simp [CV.below];omega) (Ja0 rfl (Ja0 rfl (Ja0 rfl (Ja0 (Jf4 _ _) (Ja0 (by simp [CV.below]) Jb1)))))))
  have hmb:(false=true)↔Jq8 (atP nd.p r.part) (Jw3 r near (Jk9 far b)):=by rw [hnd];exact ⟨fun h=>(nomatch h),fun h=>(hme h).elim⟩
  refine AW.e [.val,.rd 0,.val,.rd 0,.ext,.rd 0,.val,.val,.ext,.ext,.val] fol U6 (ca3 (Xh4 nd.p r.part) (Kv0 r near (Jk9 far b)) (Qx4 (atP nd.p r.part) (Jw3 r near (Jk9 far b)) _ false hmb)) ?_
  apply J3
  apply AW.y rfl
  apply AW.v
  apply Kc0
  apply Jn2
  apply J1
  rcases stk with _|⟨x8,stk8⟩
  ·have hNx:=hfi.pop0 (ver':=ver) (w0.missN hme) (by show 0<e.1.size+0;omega) (fun f=>Kw1 hme)
   have hmu:muF ⟨none,[],b,ver,cnt⟩ < muF ⟨some e,[],b,ver,cnt⟩:=by show 0<e.1.size+0;omega
   refine AW.rg ?_
   simp only [push_cast,simprocAttr,U6]
   refine CThen.by (Qw4 (m.length+5) (m.length+4) ver 0 (cnt:Int) [] _ (by (simp only [push_cast,simprocAttr])<;>rfl) (by (simp only [push_cast,simprocAttr])<;>rfl) (by omega) rfl) ?_
   simp only [push_cast,simprocAttr,U6]
   apply Jo5
   refine ⟨_,hNx,hmu,?_⟩
   try simp only [Jb3,Ja4,push_cast,simprocAttr,U6,Option.isSome_none,Option.isSome_some,qR,Int.natCast_add,Int.natCast_one,List.length_cons,List.length_nil]
   exact Weak.to (extra:=_) (by simp only [KS,simprocAttr,Option.isSome_none,Option.isSome_some,qR,Int.natCast_add,Int.natCast_one,List.length_cons,List.length_nil]) (by first|rfl|(simp only [List.append_assoc,List.cons_append,List.nil_append];rfl)) (by first|rfl|(simp [AV.below,CV.below];done)|(simp [AV.below,CV.below];omega)) (by exact MWf.app (hwf.grow (by simp)) (Ja0 (by simp [CV.below];omega) (Ja0 rfl (Ja0 rfl (Ja0 rfl (Ja0 (Jf4 _ _) (Ja0 (by simp [CV.below]) Jb1)))))))
  have hNx:=hfi.pop1 (ver':=ver) (w0.missN hme) (by show x8.1.size+Jw1 stk8<e.1.size+(x8.1.size+Jw1 stk8);omega) (fun f=>Kw1 hme)
  have hmu:muF ⟨some x8,stk8,b,ver,cnt+1⟩ < muF ⟨some e,x8::stk8,b,ver,cnt⟩:=by show x8.1.size+Jw1 stk8<e.1.size+(x8.1.size+Jw1 stk8);omega
  have hl8:(x8::stk8).length=(rtL stk8).length+1:=by rw [Ka9];rfl
  have hl9:=Ka9 stk8
  have hrc:=Kq5 x8 stk8
  have hl7:stk8.length<=1000000:=by have:(x8::stk8).length<=_:=hsl;simp only [List.length_cons] at this;omega
  refine AW.rg ?_
  simp only [push_cast,simprocAttr,U6,hl8,hrc,hl9]
  refine CThen.by (Kr1 (m.length+5) (m.length+4) ver (cnt:Int) (rtL stk8) x8.1.root _ (by (simp only [push_cast,simprocAttr,hl9])<;>rfl) (by (simp only [push_cast,simprocAttr,hrc])<;>rfl) (by omega) (by omega) (by omega)) ?_
  simp only [push_cast,simprocAttr,U6,hl8,hrc,hl9]
  apply Jo5
  refine ⟨_,hNx,hmu,?_⟩
  try simp only [Jb3,Ja4,push_cast,simprocAttr,U6,hl8,hrc,hl9,Option.isSome_none,Option.isSome_some,qR,Int.natCast_add,Int.natCast_one,List.length_cons,List.length_nil]
  exact Weak.to (extra:=_) (by simp only [KS,simprocAttr,Option.isSome_none,Option.isSome_some,qR,Int.natCast_add,Int.natCast_one,List.length_cons,List.length_nil]) (by first|rfl|(simp only [List.append_assoc,List.cons_append,List.nil_append];rfl)) (by first|rfl|(simp [AV.below,CV.below];done)|(simp [AV.below,CV.below];omega)) (by exact MWf.app (hwf.grow (by simp)) (Ja0 (by simp [CV.below];omega) (Ja0 rfl (Ja0 rfl (Ja0 rfl (Ja0 (Jf4 _ _) (Ja0 (by simp [CV.below]) Jb1)))))))
 have hsn:sq=none:=by cases sq with
   | none=>rfl
   | some _=>cases h35
 subst hsn
 have hstk:stk=[]:=hfi.z rfl
 subst hstk
 have hbe:b=Jv3 (Hq r mv near far) n:=hfi.w.all hop
 have hTe:cnt=T:=by
   obtain ⟨f,_,h2⟩:=hfi.k
   have h2':cnt+Jv5 nds o r mv near far f [] b=T+0:=h2
   rw [Vh6] at h2';omega
 rw [hbe,hTe]
 apply AW.v
 apply Kc0
 apply Kc0
 apply Jn2
 apply J0
 refine AW.d [.rd 0,.val,.val,.val,.val,.rw 0,.wr,.val,.val] fol U5 Tru ?_
 exact AW.ret (hQ _ _ _ (RetP.z hwf Tru))
theorem Vj6 (r:RY)(mv:Nat->MV)(sb sv n:Nat)(near far:Int)(m:Ja1)(h0:n=0):Ctr Tryz.prog 50 [.agg [.nils,.nils,.sl sb sv 0 n],.agg (ryC r),.one (.int .i64 near),.one (.int .i64 far)] m (.tup [(true,htC (Jg5 r mv (Jv3 (Hq r mv near far) n))),(false,[.bool (Jv3 (Hq r mv near far) n).isSome]),(false,[.int .i64 ((0:Nat):Int)])]) m:=by
 refine Ctr.en Tryz.func50 [.cell 8 165,.tmp 9,.tmp 10] 124 fun hwf Q hQ=>?_
 subst h0
 have hv:htC (Jg5 r mv (Jv3 (Hq r mv near far) 0))=[.int .i64 0,.int .i64 0,.int .i64 0,.int .i64 0,.int .i64 0,.int .i64 0,.int .i64 0,.int .i64 0]:=rfl
 have hv2:(Jv3 (Hq r mv near far) 0).isSome=false:=rfl
 rw [hv,hv2] at hQ
 have U16:=ca2 @Jo2 @Ja6
 exact AW.f U16 Tru
theorem Vz4 (mv:Nat->MV)(nb nv ob ov sb sv n:Nat)(m:Ja1)(h0:0<n)(hn:n<=400000)(hnb:∃ k ez,m[nb]?=some ⟨k,255,nv,ez,ndL (Jh1 (prM mv) n).2⟩)(hob:∃ k ez,m[ob]?=some ⟨k,3,ov,ez,iC (Jh1 (prM mv) n).1⟩)(hsb:∃ k ez,m[sb]?=some ⟨k,204,sv,ez,Jb0 n (mF mv)⟩):∃ TF:RY->Int->Int->Nat,∀ (L:Ja1) (r:RY) (near far:Int),Ctr Tryz.prog 50 [.agg [.sl nb nv 0 (Jh1 (prM mv) n).2.length,.sl ob ov 0 n,.sl sb sv 0 n],.agg (ryC r),.one (.int .i64 near),.one (.int .i64 far)] (m++L) (.tup [(true,htC (Jg5 r mv (Jv3 (Hq r mv near far) n))),(false,[.bool (Jv3 (Hq r mv near far) n).isSome]),(false,[.int .i64 ((TF r near far:Nat):Int)])]) (m++L):=by
 obtain ⟨t,h1,h2,h3,h4,h5,h6⟩:=Vd4 (prM mv) h0
 refine ⟨fun r near far=>Jv5 (Jh1 (prM mv) n).2 (Jh1 (prM mv) n).1 r mv near far (2*n) [(t,0,n)] none,fun L r near far=>?_⟩
 exact Vz3 r mv nb nv ob ov sb sv n _ t _ _ near far (m++L) (by obtain ⟨k,e,q⟩:=hnb;exact ⟨k,e,Ja3 q L⟩) (by obtain ⟨k,e,q⟩:=hob;exact ⟨k,e,Ja3 q L⟩) (by obtain ⟨k,e,q⟩:=hsb;exact ⟨k,e,Ja3 q L⟩) hn (by omega) h1 h2 h3 rfl
def Kd7 (u v:Int):Int:=if 65536<Jb8 u+Jb8 v then 65536 - Jb8 u else Jb8 u
def Kd6 (u v:Int):Int:=if 65536<Jb8 u+Jb8 v then 65536 - Jb8 v else Jb8 v
noncomputable def Ky7 (P:PL)(u v:Int):V :=
 if P.kind=0 then Jf9 (P.P 0) (Je7 (Js6 u v) P.r)
 else Jf9 (Jf9 (Jf9 z0V (P.P 0)) (Je7 (Jb2 (P.P 1) (P.P 0)) (Kd7 u v))) (Je7 (Jb2 (P.P 2) (P.P 0)) (Kd6 u v))
structure TN where
 (d l:V) (g s:Bool)
def tnC (t:TN):List CV:=c3C t.d++(c3C t.l++[.bool t.g,.bool t.s])
def tn0:TN:=⟨fun _=>0,fun _=>0,false,false⟩
noncomputable def Ju3 (k ro:Int)(d n:V)(u v:Int):V:=if k=0 then Jt9 n u v else if k=1 then Jb9 (Qm0 d n) else Jb9 (Jf9 (Qm0 d n) (Je7 (Jt9 n u v) ro))
noncomputable def Kf4 (k:Int)(c:V)(ro:Int)(d n:V)(u v:Int):TN :=
 if k≠0/\k≠1/\k≠2 then tn0 else if Jf7 (Ju3 k ro d n u v) n<=0 then tn0 else ⟨Ju3 k ro d n u v,c,true,!(k ==0)⟩
structure KY where
 (sd fr px sm:Int)
noncomputable def KY.u (k:KY)(i:Int):Int:=Vm4 k.sd k.fr k.px k.sm i
def kyC (k:KY):List CV:=Vc8 k.sd k.fr k.px k.sm
structure WD where
 (mv:Nat->MV) (n:Nat) (kd:Nat->Int) (cl:Nat->V) (ro:Nat->Int) (lm:List Nat) (sky:V) (dp:Nat)
noncomputable def Jr2 (w:WD)(r:RY)(near far:Int):Option (Int × Nat):=Jv3 (Hq r w.mv near far) w.n
noncomputable def Qm5 (w:WD)(k:KY)(d:Int):Nat:=w.lm.getD (Jz8 k.sd k.fr k.px k.sm d (w.lm.length:Int)).toNat 0
noncomputable def Qm4 (w:WD)(k:KY)(d:Int)(at':Int):V:=Ky7 (atM (w.mv (Qm5 w k d)) at') (k.u (d+1)) (k.u (d+2))
noncomputable def Xi8 (w:WD)(k:KY)(d:Int)(h:HT)(at':Int):Option (Int × Nat):=Jr2 w ⟨h.p,Jb9 (Jb2 (Qm4 w k d at') h.p),at'⟩ 1024 (Kf8 (Jb2 (Qm4 w k d at') h.p))
def hidB (i:Nat):Option (Int × Nat)->Bool
 | none=>false
 | some (_,j)=>!(j ==i)
noncomputable def Jw8 (w:WD)(k:KY)(d:Int)(h:HT)(hi:Nat)(at':Int):V :=
 if w.lm=[] then z0V else if Qm5 w k d=hi then z0V else if Kc4 h.p h.n (Qm4 w k d at')=0 then z0V else
  if hidB (Qm5 w k d) (Xi8 w k d h at')=true then z0V else Je7 (Jf6 (w.cl hi) (w.cl (Qm5 w k d))) (Jd2 (Kc4 h.p h.n (Qm4 w k d at')) (ofI (w.lm.length:Int)))
structure SN where
 (li:V) (dep:Int) (no po ba:V) (sh pt:Int)
def snC (s:SN):List CV:=c3C s.li++(.int .i64 s.dep::(c3C s.no++(c3C s.po++(c3C s.ba++[.int .i64 s.sh,.int .i64 s.pt]))))
theorem Kt6 (s:SN):snC s=[.int .i64 (s.li 0),.int .i64 (s.li 1),.int .i64 (s.li 2),.int .i64 (s.dep),.int .i64 (s.no 0),.int .i64 (s.no 1),.int .i64 (s.no 2),.int .i64 (s.po 0),.int .i64 (s.po 1),.int .i64 (s.po 2),.int .i64 (s.ba 0),.int .i64 (s.ba 1),.int .i64 (s.ba 2),.int .i64 (s.sh),.int .i64 (s.pt)]:=rfl
structure TS where
 (s:SN) (w:V) (sharp:Bool) (r:RY)
noncomputable def Kb6 (w:WD)(r:RY)(t:Int)(i:Nat):HT:=⟨t,(i:Int),Jf0 r t,Jo4 r (atM (w.mv i) r.part) t⟩
noncomputable def Jy3 (w:WD)(b:Nat)(s:SN)(h:HT)(i:Nat):SN:=if b=0 then ⟨s.li,h.t,h.n,h.p,w.cl i,(i:Int),s.pt⟩ else s
def SN.add (s:SN)(l:V):SN:=⟨Jf9 s.li l,s.dep,s.no,s.po,s.ba,s.sh,s.pt⟩
noncomputable def liS (w:WD)(k:KY)(d:Int)(s:TS)(sn:SN)(h:HT)(i:Nat):SN:=if w.kd i=0 then sn.add (Jf6 s.w (Jw8 w k d h i sn.pt)) else sn
noncomputable def Ka4 (w:WD)(k:KY)(d:Int)(s:TS)(h:HT)(i:Nat):TN:=Kf4 (w.kd i) (w.cl i) (w.ro i) s.r.d h.n (k.u (d+3)) (k.u (d+4))
noncomputable def Jr4 (w:WD)(k:KY)(b:Nat)(d:Int)(s:TS):SN ⊕ TS :=
 match Jr2 w s.r 1024 2147483648 with
 | none=>.inl (s.s.add (Jf6 s.w w.sky))
 | some (t,i) =>
  if w.kd i=3 then .inl (if s.sharp=true then (Jy3 w b s.s (Kb6 w s.r t i) i).add (Jf6 s.w (w.cl i)) else Jy3 w b s.s (Kb6 w s.r t i) i)
  else if (Ka4 w k d s (Kb6 w s.r t i) i).g=false then .inl (liS w k d s (Jy3 w b s.s (Kb6 w s.r t i) i) (Kb6 w s.r t i) i)
  else if b=0 then .inr ⟨liS w k d s (Jy3 w b s.s (Kb6 w s.r t i) i) (Kb6 w s.r t i) i,Jf6 s.w (Ka4 w k d s (Kb6 w s.r t i) i).l,(Ka4 w k d s (Kb6 w s.r t i) i).s,⟨(Kb6 w s.r t i).p,(Ka4 w k d s (Kb6 w s.r t i) i).d,s.s.pt⟩⟩
  else if Qp2 (Jf6 s.w (Ka4 w k d s (Kb6 w s.r t i) i).l)<=Jb8 (k.u (d+5)) then .inl (liS w k d s (Jy3 w b s.s (Kb6 w s.r t i) i) (Kb6 w s.r t i) i)
  else .inr ⟨liS w k d s (Jy3 w b s.s (Kb6 w s.r t i) i) (Kb6 w s.r t i) i,Jv8 (Jf6 s.w (Ka4 w k d s (Kb6 w s.r t i) i).l) (k.u (d+5)),(Ka4 w k d s (Kb6 w s.r t i) i).s,⟨(Kb6 w s.r t i).p,(Ka4 w k d s (Kb6 w s.r t i) i).d,s.s.pt⟩⟩
noncomputable def Jx8 (w:WD)(k:KY):Nat->Nat->TS->SN
 | 0,_,s=>s.s
 | f+1,b,s=>match Jr4 w k b (3+8*(b:Int)) s with
  | .inl x=>x
  | .inr s'=>Jx8 w k f (b+1) s'
theorem Qr0 {w:WD}{k:KY}{b:Nat}{s:TS}{n:Nat}(h:n<=b):Jx8 w k (n - b) b s=s.s:=by
 rw [show n - b=0 by omega];rfl
theorem Jq0 {w:WD}{k:KY}{b:Nat}{s:TS}{n:Nat}{x:SN}(hb:b<n)(h:Jr4 w k b (3+8*(b:Int)) s=.inl x):Jx8 w k (n - b) b s=x:=by
 rw [show n - b=(n - (b+1))+1 by omega]
 show (match Jr4 w k b (3+8*(b:Int)) s with | .inl x=>x | .inr s'=>_)=x
 rw [h]
theorem Kt2 {w:WD}{k:KY}{b:Nat}{s s':TS}{n:Nat}(hb:b<n)(h:Jr4 w k b (3+8*(b:Int)) s=.inr s'):Jx8 w k (n - b) b s=Jx8 w k (n - (b+1)) (b+1) s':=by
 rw [show n - b=(n - (b+1))+1 by omega]
 show (match Jr4 w k b (3+8*(b:Int)) s with | .inl x=>x | .inr s'=>_)=_
 rw [h]
section
variable {w:WD}{k:KY}{b:Nat}{d:Int}{s:TS}{t:Int}{i:Nat}{h:HT}{sn1 sn2:SN}{T:TN}
theorem Kt5 (hF:Jr2 w s.r 1024 2147483648=none):Jr4 w k b d s=.inl (s.s.add (Jf6 s.w w.sky)):=by unfold Jr4;rw [hF]
theorem Qr8 (hF:Jr2 w s.r 1024 2147483648=some (t,i))(hh:Kb6 w s.r t i=h)(h1:Jy3 w b s.s h i=sn1)(h3:w.kd i=3)(hs:s.sharp=true):Jr4 w k b d s=.inl (sn1.add (Jf6 s.w (w.cl i))):=by
 subst hh h1
 unfold Jr4;rw [hF];dsimp only;rw [if_pos h3,if_pos hs]
theorem Qr9 (hF:Jr2 w s.r 1024 2147483648=some (t,i))(hh:Kb6 w s.r t i=h)(h1:Jy3 w b s.s h i=sn1)(h3:w.kd i=3)(hs:s.sharp=false):Jr4 w k b d s=.inl sn1:=by
 subst hh h1
 unfold Jr4;rw [hF];dsimp only;rw [if_pos h3,if_neg (by rw [hs];decide)]
theorem Qr7 (hF:Jr2 w s.r 1024 2147483648=some (t,i))(hh:Kb6 w s.r t i=h)(h1:Jy3 w b s.s h i=sn1)(h2:liS w k d s sn1 h i=sn2)(hT:Ka4 w k d s h i=T)(h3:¬w.kd i=3)(hg:T.g=false):Jr4 w k b d s=.inl sn2:=by
 subst hh h1 h2 hT
 unfold Jr4;rw [hF];dsimp only;rw [if_neg h3,if_pos hg]
theorem Vd7 (hF:Jr2 w s.r 1024 2147483648=some (t,i))(hh:Kb6 w s.r t i=h)(h1:Jy3 w b s.s h i=sn1)(h2:liS w k d s sn1 h i=sn2)(hT:Ka4 w k d s h i=T)(h3:¬w.kd i=3)(hg:T.g=true)(hb:b=0):Jr4 w k b d s=.inr ⟨sn2,Jf6 s.w T.l,T.s,⟨h.p,T.d,s.s.pt⟩⟩:=by
 subst hh h1 h2 hT
 unfold Jr4;rw [hF];dsimp only;rw [if_neg h3,if_neg (by rw [hg];decide),if_pos hb]
theorem Qs0 (hF:Jr2 w s.r 1024 2147483648=some (t,i))(hh:Kb6 w s.r t i=h)(h1:Jy3 w b s.s h i=sn1)(h2:liS w k d s sn1 h i=sn2)(hT:Ka4 w k d s h i=T)(h3:¬w.kd i=3)(hg:T.g=true)(hb:¬b=0)(hl:Qp2 (Jf6 s.w T.l)<=Jb8 (k.u (d+5))):Jr4 w k b d s=.inl sn2:=by
 subst hh h1 h2 hT
 unfold Jr4;rw [hF];dsimp only;rw [if_neg h3,if_neg (by rw [hg];decide),if_neg hb,if_pos hl]
theorem Vt5 (hF:Jr2 w s.r 1024 2147483648=some (t,i))(hh:Kb6 w s.r t i=h)(h1:Jy3 w b s.s h i=sn1)(h2:liS w k d s sn1 h i=sn2)(hT:Ka4 w k d s h i=T)(h3:¬w.kd i=3)(hg:T.g=true)(hb:¬b=0)(hl:¬Qp2 (Jf6 s.w T.l)<=Jb8 (k.u (d+5))):Jr4 w k b d s=.inr ⟨sn2,Jv8 (Jf6 s.w T.l) (k.u (d+5)),T.s,⟨h.p,T.d,s.s.pt⟩⟩:=by
 subst hh h1 h2 hT
 unfold Jr4;rw [hF];dsimp only;rw [if_neg h3,if_neg (by rw [hg];decide),if_neg hb,if_neg hl]
end
def Jp6 (s:SC):Nat->List Nat
 | 0=>[]
 | i+1=>if glB s i then Jp6 s i++[i] else Jp6 s i
theorem Jz2 (s:SC):∀ n,iL (Jj1 (glB s) n)=iC (Jp6 s n)
 | 0=>rfl
 | n+1=>by
  have ih:=Jz2 s n
  show iL (if glB s n then Jj1 (glB s) n++[(n:Int)] else Jj1 (glB s) n)=iC (if glB s n then Jp6 s n++[n] else Jp6 s n)
  split
  ·rw [<-Jt5,<-ih];unfold iL;rw [List.map_append];rfl
  exact ih
theorem Ki4 (s:SC)(n:Nat):(Jj1 (glB s) n).length=(Jp6 s n).length:=by
 have h:=congrArg List.length (Jz2 s n)
 rw [Jf5] at h
 have:(iL (Jj1 (glB s) n)).length=(Jj1 (glB s) n).length:=by unfold iL;rw [List.length_map]
 omega
theorem Qe6 (s:SC):∀ (n:Nat) (i:Nat),i ∈ Jp6 s n->i<n
 | 0,_,h=>by cases h
 | n+1,i,h=>by
  have ih:=Qe6 s n i
  have h':i ∈ (if glB s n then Jp6 s n++[n] else Jp6 s n):=h
  split at h'
  ·rcases List.mem_append.1 h' with h'|h'
   ·have:=ih h';omega
   have:i=n:=by simpa using h'
   omega
  have:=ih h';omega
noncomputable def Je8 (s:SC)(f:Int):WD:=⟨mvS s f,s.nx,fun i=>s.pk (s.xp i).toNat,fun i=>s.pc (s.xp i).toNat,fun i=>s.pr (s.xp i).toNat,Jp6 s s.nx,s.sk,s.dp.toNat⟩
def Qm8 (s:SC)(f x y sm:Int):KY:=⟨s.sd,f,y*s.w+x,sm⟩
def Qs7 (pt:Int):SN:=⟨fun _=>0,2147483648,fun _=>0,fun _=>0,fun _=>0,-1,pt⟩
theorem Xf4 (P:PL)(u v:Int)(m:Ja1)(hk:P.kind=0):Ctr Tryz.prog 131 [.agg (plC P),.one (.int .i64 u),.one (.int .i64 v)] m (.agg (c3C (Ky7 P u v))) m:=by
 refine Ctr.en Tryz.func131 [.cell 6 59] 55 fun hwf Q hQ=>?_
 have hv:Ky7 P u v=Jf9 (P.P 0) (Je7 (Js6 u v) P.r):=if_pos hk
 rw [hv] at hQ
 have hkb:(P.kind ==0)=true:=beq_iff_eq.2 hk
 have U1:=ca3 @Jv4 @Ja6 hkb
 exact AW.fd [[.val,.val,.rd 0,.val,.val,.ext,.val,.rd 0,.ext,.ext,.wr]] U1 (ca3 (Qa1 u v) (Jr5 (Js6 u v) P.r) (Qb2 (P.P 0) (Je7 (Js6 u v) P.r)))
theorem Xf5 (P:PL)(u v:Int)(m:Ja1)(hk:¬P.kind=0):Ctr Tryz.prog 131 [.agg (plC P),.one (.int .i64 u),.one (.int .i64 v)] m (.agg (c3C (Ky7 P u v))) m:=by
 refine Ctr.en Tryz.func131 [.cell 6 59] 55 fun hwf Q hQ=>?_
 obtain ⟨D,hD⟩:∃ D,D=Jf9 (Jf9 (Jf9 z0V (P.P 0)) (Je7 (Jb2 (P.P 1) (P.P 0)) (Kd7 u v))) (Je7 (Jb2 (P.P 2) (P.P 0)) (Kd6 u v)):=⟨_,rfl⟩
 have hv:Ky7 P u v=D:=by rw [hD];exact if_neg hk
 rw [hv] at hQ
 have hkb:(P.kind ==0)=false:=by simpa using hk
 have b1:=Jv6 u
 have b2:=Jv6 v
 have w0:IntKind.i64.wrap (Jb8 u+Jb8 v)=Jb8 u+Jb8 v:=wi (by omega)
 have w1:IntKind.i64.wrap (65536 - Jb8 u)=65536 - Jb8 u:=wi (by omega)
 have w2:IntKind.i64.wrap (65536 - Jb8 v)=65536 - Jb8 v:=wi (by omega)
 have U2:=ca4 @Jv4 @Ja6 hkb (ca3 w0 w1 w2)
 refine AW.w 9 U2 Kg0 fun K J0=>?_
 refine AW.condJ rfl [3,6] [(1,.one (.int .i64 (Kd7 u v))),(2,.one (.int .i64 (Kd6 u v)))] [] (fun h27=>?_) (fun h27=>?_) ?_
 ·have hA:Kd7 u v=65536 - Jb8 u:=if_pos (of_decide_eq_true h27)
  have hB:Kd6 u v=65536 - Jb8 v:=if_pos (of_decide_eq_true h27)
  refine AW.w 1 U2 Tru ?_
  try simp only [Jb3,Ja4,push_cast,simprocAttr,U2,hA,hB]
  exact Weak.same (by simp only [KS,simprocAttr,hA,hB]) (by first|rfl|simp only [KS,simprocAttr,hA,hB])
 ·have hA:Kd7 u v=Jb8 u:=if_neg (of_decide_eq_false h27)
  have hB:Kd6 u v=Jb8 v:=if_neg (of_decide_eq_false h27)
  refine AW.w 1 Tru Tru ?_
  try simp only [Jb3,Ja4,push_cast,simprocAttr,U2,hA,hB]
  exact Weak.same (by simp only [KS,simprocAttr,hA,hB]) (by first|rfl|simp only [KS,simprocAttr,hA,hB])
 try simp only [Jb3,Ja4,push_cast,simprocAttr,U2]
 apply J0
 refine AW.q fun K J0=>?_
 refine AW.draw [.val,.val,.rd 0,.val,.val,.rd 0,.val,.val,.rd 0,.ext,.val,.ext,.val,.val,.rd 0,.val,.val,.rd 0,.ext,.val,.ext,.ext,.ext,.wr] fol (by decide) (by kernel_rfl) ?_
 simp only [push_cast,simprocAttr,U2]
 refine DCall.z (Ji0 (P.P 1) (P.P 0) _) ?_
 simp only [push_cast,simprocAttr,U2]
 refine DCall.z (Jr5 (Jb2 (P.P 1) (P.P 0)) (Kd7 u v) _) ?_
 simp only [push_cast,simprocAttr,U2]
 refine DCall.z (Ji0 (P.P 2) (P.P 0) _) ?_
 simp only [push_cast,simprocAttr,U2]
 refine DCall.z (Jr5 (Jb2 (P.P 2) (P.P 0)) (Kd6 u v) _) ?_
 simp only [push_cast,simprocAttr,U2]
 refine DExt.by (by first|rfl|exact (List.append_nil _).symm|(simp only [List.append_assoc,List.cons_append,List.nil_append];rfl)) ?_
 simp only [push_cast,simprocAttr,U2]
 refine DCall.z ((by have h9:=fun M r9 q=>Ky3 r9 0 (P.P 0 0) (P.P 0 1) (P.P 0 2) ((Je7 (Jb2 (P.P 1) (P.P 0)) (Kd7 u v)) 0) ((Je7 (Jb2 (P.P 1) (P.P 0)) (Kd7 u v)) 1) ((Je7 (Jb2 (P.P 1) (P.P 0)) (Kd7 u v)) 2) ((Je7 (Jb2 (P.P 2) (P.P 0)) (Kd6 u v)) 0) ((Je7 (Jb2 (P.P 2) (P.P 0)) (Kd6 u v)) 1) ((Je7 (Jb2 (P.P 2) (P.P 0)) (Kd6 u v)) 2) M q;have e9:([.int .i64 (Jd0 (Jd0 (Jd0 0 (P.P 0 0)) ((Je7 (Jb2 (P.P 1) (P.P 0)) (Kd7 u v)) 0)) ((Je7 (Jb2 (P.P 2) (P.P 0)) (Kd6 u v)) 0)),.int .i64 (Jd0 (Jd0 (Jd0 0 (P.P 0 1)) ((Je7 (Jb2 (P.P 1) (P.P 0)) (Kd7 u v)) 1)) ((Je7 (Jb2 (P.P 2) (P.P 0)) (Kd6 u v)) 1)),.int .i64 (Jd0 (Jd0 (Jd0 0 (P.P 0 2)) ((Je7 (Jb2 (P.P 1) (P.P 0)) (Kd7 u v)) 2)) ((Je7 (Jb2 (P.P 2) (P.P 0)) (Kd6 u v)) 2))]:List CV)=c3C D:=(by rw [hD];rfl);rw [e9] at h9;exact h9 _ _ ⟨.grow,3,by simp only [push_cast,simprocAttr]⟩)) ?_
 simp only [push_cast,simprocAttr,U2]
 exact AW.f Tru Tru
theorem Xf6 (P:PL)(u v:Int)(m:Ja1):Ctr Tryz.prog 131 [.agg (plC P),.one (.int .i64 u),.one (.int .i64 v)] m (.agg (c3C (Ky7 P u v))) m:=by
 by_cases hk:P.kind=0
 ·exact Xf4 P u v m hk
 exact Xf5 P u v m hk
theorem Xo0 (k:Int)(c:V)(ro:Int)(d n:V)(u v:Int)(m:Ja1)(hk:k=0)(g:Jf7 (Ju3 k ro d n u v) n<=0):Ctr Tryz.prog 55 [.agg [.int .i64 k,.int .i64 (c 0),.int .i64 (c 1),.int .i64 (c 2),.int .i64 ro],.agg (c3C d),.agg (c3C n),.one (.int .i64 u),.one (.int .i64 v)] m (.agg (tnC (Kf4 k c ro d n u v))) m:=by
 refine Ctr.en Tryz.func55 [.cell 10 172] 62 fun hwf Q hQ=>?_
 obtain ⟨D,hD⟩:∃ D,D=Jt9 n u v:=⟨_,rfl⟩
 have hdd:Ju3 k ro d n u v=D:=by rw [hD,hk];rfl
 rw [hdd] at g
 have hv:tnC (Kf4 k c ro d n u v)=[.int .i64 0,.int .i64 0,.int .i64 0,.int .i64 0,.int .i64 0,.int .i64 0,.bool false,.bool false]:=by
   unfold Kf4
   rw [if_neg (by omega),hdd,if_pos g]
   rfl
 rw [hv] at hQ
 have hg9:¬0<Jf7 D n:=by omega
 subst hk
 have U5:=ca3 @Ja6 g hg9
 refine AW.w 7 U5 Tru fun K J0=>?_
 have q_2:=Qh1 n u v
 rw [<-hD] at q_2
 exact AW.f U5 (ca2 q_2 (Jf2 D n))
theorem Xo1 (k:Int)(c:V)(ro:Int)(d n:V)(u v:Int)(m:Ja1)(hk:k=0)(g:¬Jf7 (Ju3 k ro d n u v) n<=0):Ctr Tryz.prog 55 [.agg [.int .i64 k,.int .i64 (c 0),.int .i64 (c 1),.int .i64 (c 2),.int .i64 ro],.agg (c3C d),.agg (c3C n),.one (.int .i64 u),.one (.int .i64 v)] m (.agg (tnC (Kf4 k c ro d n u v))) m:=by
 refine Ctr.en Tryz.func55 [.cell 10 172] 62 fun hwf Q hQ=>?_
 obtain ⟨D,hD⟩:∃ D,D=Jt9 n u v:=⟨_,rfl⟩
 have hdd:Ju3 k ro d n u v=D:=by rw [hD,hk];rfl
 rw [hdd] at g
 have hv:tnC (Kf4 k c ro d n u v)=[.int .i64 (D 0),.int .i64 (D 1),.int .i64 (D 2),.int .i64 (c 0),.int .i64 (c 1),.int .i64 (c 2),.bool true,.bool false]:=by
   unfold Kf4
   rw [if_neg (by omega),hdd,if_neg g]
   rw [hk];rfl
 rw [hv] at hQ
 have hg9:0<Jf7 D n:=by omega
 subst hk
 have U6:=ca3 @Ja6 g hg9
 refine AW.w 7 U6 Tru fun K J0=>?_
 have q_3:=Qh1 n u v
 rw [<-hD] at q_3
 exact AW.f U6 (ca2 q_3 (Jf2 D n))
theorem Xn8 (k:Int)(c:V)(ro:Int)(d n:V)(u v:Int)(m:Ja1)(hk:k=1)(g:Jf7 (Ju3 k ro d n u v) n<=0):Ctr Tryz.prog 55 [.agg [.int .i64 k,.int .i64 (c 0),.int .i64 (c 1),.int .i64 (c 2),.int .i64 ro],.agg (c3C d),.agg (c3C n),.one (.int .i64 u),.one (.int .i64 v)] m (.agg (tnC (Kf4 k c ro d n u v))) m:=by
 refine Ctr.en Tryz.func55 [.cell 10 172] 62 fun hwf Q hQ=>?_
 obtain ⟨D,hD⟩:∃ D,D=Jb9 (Qm0 d n):=⟨_,rfl⟩
 have hdd:Ju3 k ro d n u v=D:=by rw [hD,hk];rfl
 rw [hdd] at g
 have hv:tnC (Kf4 k c ro d n u v)=[.int .i64 0,.int .i64 0,.int .i64 0,.int .i64 0,.int .i64 0,.int .i64 0,.bool false,.bool false]:=by
   unfold Kf4
   rw [if_neg (by omega),hdd,if_pos g]
   rfl
 rw [hv] at hQ
 have hg9:¬0<Jf7 D n:=by omega
 subst hk
 have U7:=ca3 @Ja6 g hg9
 refine AW.w 9 U7 Tru fun K J0=>?_
 have q_4:=Jo6 (Qm0 d n)
 rw [<-hD] at q_4
 exact AW.f U7 (ca3 (Ke7 d n) q_4 (Jf2 D n))
theorem Xn9 (k:Int)(c:V)(ro:Int)(d n:V)(u v:Int)(m:Ja1)(hk:k=1)(g:¬Jf7 (Ju3 k ro d n u v) n<=0):Ctr Tryz.prog 55 [.agg [.int .i64 k,.int .i64 (c 0),.int .i64 (c 1),.int .i64 (c 2),.int .i64 ro],.agg (c3C d),.agg (c3C n),.one (.int .i64 u),.one (.int .i64 v)] m (.agg (tnC (Kf4 k c ro d n u v))) m:=by
 refine Ctr.en Tryz.func55 [.cell 10 172] 62 fun hwf Q hQ=>?_
 obtain ⟨D,hD⟩:∃ D,D=Jb9 (Qm0 d n):=⟨_,rfl⟩
 have hdd:Ju3 k ro d n u v=D:=by rw [hD,hk];rfl
 rw [hdd] at g
 have hv:tnC (Kf4 k c ro d n u v)=[.int .i64 (D 0),.int .i64 (D 1),.int .i64 (D 2),.int .i64 (c 0),.int .i64 (c 1),.int .i64 (c 2),.bool true,.bool true]:=by
   unfold Kf4
   rw [if_neg (by omega),hdd,if_neg g]
   rw [hk];rfl
 rw [hv] at hQ
 have hg9:0<Jf7 D n:=by omega
 subst hk
 have U8:=ca3 @Ja6 g hg9
 refine AW.w 9 U8 Tru fun K J0=>?_
 have q_5:=Jo6 (Qm0 d n)
 rw [<-hD] at q_5
 exact AW.f U8 (ca3 (Ke7 d n) q_5 (Jf2 D n))
theorem Xn6 (k:Int)(c:V)(ro:Int)(d n:V)(u v:Int)(m:Ja1)(hk:k=2)(g:Jf7 (Ju3 k ro d n u v) n<=0):Ctr Tryz.prog 55 [.agg [.int .i64 k,.int .i64 (c 0),.int .i64 (c 1),.int .i64 (c 2),.int .i64 ro],.agg (c3C d),.agg (c3C n),.one (.int .i64 u),.one (.int .i64 v)] m (.agg (tnC (Kf4 k c ro d n u v))) m:=by
 refine Ctr.en Tryz.func55 [.cell 10 172] 62 fun hwf Q hQ=>?_
 obtain ⟨D,hD⟩:∃ D,D=Jb9 (Jf9 (Qm0 d n) (Je7 (Jt9 n u v) ro)):=⟨_,rfl⟩
 have hdd:Ju3 k ro d n u v=D:=by rw [hD,hk];rfl
 rw [hdd] at g
 have hv:tnC (Kf4 k c ro d n u v)=[.int .i64 0,.int .i64 0,.int .i64 0,.int .i64 0,.int .i64 0,.int .i64 0,.bool false,.bool false]:=by
   unfold Kf4
   rw [if_neg (by omega),hdd,if_pos g]
   rfl
 rw [hv] at hQ
 have hg9:¬0<Jf7 D n:=by omega
 subst hk
 have U9:=ca3 @Ja6 g hg9
 refine AW.wd [[.rd 0,.val,.val,.ext,.val,.rd 0,.ext,.fl,.wr]] 12 U9 (ca2 (Qh1 n u v) (Jr5 (Jt9 n u v) ro)) fun K J0=>?_
 have q_6:=Jo6 (Jf9 (Qm0 d n) (Je7 (Jt9 n u v) ro))
 rw [<-hD] at q_6
 exact AW.fd [[.rd 0,.rd 0,.ext,.rd 0,.ext,.ext,.val,.wr,.val,.wr]] U9 (ca4 (Ke7 d n) (Qb2 (Qm0 d n) (Je7 (Jt9 n u v) ro)) q_6 (Jf2 D n))
theorem Xn7 (k:Int)(c:V)(ro:Int)(d n:V)(u v:Int)(m:Ja1)(hk:k=2)(g:¬Jf7 (Ju3 k ro d n u v) n<=0):Ctr Tryz.prog 55 [.agg [.int .i64 k,.int .i64 (c 0),.int .i64 (c 1),.int .i64 (c 2),.int .i64 ro],.agg (c3C d),.agg (c3C n),.one (.int .i64 u),.one (.int .i64 v)] m (.agg (tnC (Kf4 k c ro d n u v))) m:=by
 refine Ctr.en Tryz.func55 [.cell 10 172] 62 fun hwf Q hQ=>?_
 obtain ⟨D,hD⟩:∃ D,D=Jb9 (Jf9 (Qm0 d n) (Je7 (Jt9 n u v) ro)):=⟨_,rfl⟩
 have hdd:Ju3 k ro d n u v=D:=by rw [hD,hk];rfl
 rw [hdd] at g
 have hv:tnC (Kf4 k c ro d n u v)=[.int .i64 (D 0),.int .i64 (D 1),.int .i64 (D 2),.int .i64 (c 0),.int .i64 (c 1),.int .i64 (c 2),.bool true,.bool true]:=by
   unfold Kf4
   rw [if_neg (by omega),hdd,if_neg g]
   rw [hk];rfl
 rw [hv] at hQ
 have hg9:0<Jf7 D n:=by omega
 subst hk
 have U10:=ca3 @Ja6 g hg9
 refine AW.wd [[.rd 0,.val,.val,.ext,.val,.rd 0,.ext,.fl,.wr]] 12 U10 (ca2 (Qh1 n u v) (Jr5 (Jt9 n u v) ro)) fun K J0=>?_
 have q_7:=Jo6 (Jf9 (Qm0 d n) (Je7 (Jt9 n u v) ro))
 rw [<-hD] at q_7
 exact AW.fd [[.rd 0,.rd 0,.ext,.rd 0,.ext,.ext,.val,.wr,.val,.wr]] U10 (ca4 (Ke7 d n) (Qb2 (Qm0 d n) (Je7 (Jt9 n u v) ro)) q_7 (Jf2 D n))
theorem bnc_o (k:Int)(c:V)(ro:Int)(d n:V)(u v:Int)(m:Ja1)(hk:k≠0/\k≠1/\k≠2):Ctr Tryz.prog 55 [.agg [.int .i64 k,.int .i64 (c 0),.int .i64 (c 1),.int .i64 (c 2),.int .i64 ro],.agg (c3C d),.agg (c3C n),.one (.int .i64 u),.one (.int .i64 v)] m (.agg (tnC (Kf4 k c ro d n u v))) m:=by
 refine Ctr.en Tryz.func55 [.cell 10 172] 62 fun hwf Q hQ=>?_
 have hv:tnC (Kf4 k c ro d n u v)=[.int .i64 0,.int .i64 0,.int .i64 0,.int .i64 0,.int .i64 0,.int .i64 0,.bool false,.bool false]:=by
   unfold Kf4
   rw [if_pos hk];rfl
 rw [hv] at hQ
 have k0:(k ==0)=false:=by simpa using hk.1
 have k1:(k ==1)=false:=by simpa using hk.2.1
 have k2:(k ==2)=false:=by simpa using hk.2.2
 have U11:=ca4 @Ja6 k0 k1 k2
 exact AW.f U11 Tru
theorem bnc_c (k:Int)(c:V)(ro:Int)(d n:V)(u v:Int)(m:Ja1):Ctr Tryz.prog 55 [.agg [.int .i64 k,.int .i64 (c 0),.int .i64 (c 1),.int .i64 (c 2),.int .i64 ro],.agg (c3C d),.agg (c3C n),.one (.int .i64 u),.one (.int .i64 v)] m (.agg (tnC (Kf4 k c ro d n u v))) m:=by
 by_cases h0:k=0
 ·by_cases g:Jf7 (Ju3 k ro d n u v) n<=0
  ·exact Xo0 k c ro d n u v m h0 g
  exact Xo1 k c ro d n u v m h0 g
 by_cases h1:k=1
 ·by_cases g:Jf7 (Ju3 k ro d n u v) n<=0
  ·exact Xn8 k c ro d n u v m h1 g
  exact Xn9 k c ro d n u v m h1 g
 by_cases h2:k=2
 ·by_cases g:Jf7 (Ju3 k ro d n u v) n<=0
  ·exact Xn6 k c ro d n u v m h2 g
  exact Xn7 k c ro d n u v m h2 g
 exact bnc_o k c ro d n u v m ⟨h0,h1,h2⟩
structure GoS (s:SC):Prop where
 xp:∀ i,i<s.nx->0<=s.xp i/\s.xp i<(s.np:Int)
 nx:s.nx<=128
 lm:(Jp6 s s.nx).length<=16
 w:1<=s.w/\s.w<=64
 h:1<=s.h/\s.h<=64
 dp:1<=s.dp/\s.dp<=6
 sm:1<=s.sm/\s.sm<=16
 fr:1<=s.fr/\s.fr<=32
 sh:0<=s.sh/\s.sh<=65536
structure SE where
 (x0 x1:CV) (sb sv lb lv:Nat) (T:RY->Int->Int->Nat)
def seC (s:SC)(R:RWs)(f:Int)(E:SE)(a b:VW):List CV:=scC s R++(.int .i64 f::E.x0::E.x1::.sl E.sb E.sv 0 s.nx::.sl E.lb E.lv 0 (Jp6 s s.nx).length::(vwC a++vwC b))
structure SetAt (m:Ja1)(p:Nat)(s:SC)(R:RWs)(f:Int)(E:SE)(a b:VW):Prop where
 hp:m[p]?=some ⟨.fix,135,0,0,seC s R f E a b⟩
 hR:ScR 140 119 223 148 155 m s R
 hs:∃ k ez,m[E.sb]?=some ⟨k,204,E.sv,ez,Jb0 s.nx (mF (mvS s f))⟩
 hl:∃ k ez,m[E.lb]?=some ⟨k,3,E.lv,ez,iC (Jp6 s s.nx)⟩
 hF:∀ (L:Ja1) (r:RY) (near far:Int),Ctr Tryz.prog 50 [.agg [E.x0,E.x1,.sl E.sb E.sv 0 s.nx],.agg (ryC r),.one (.int .i64 near),.one (.int .i64 far)] (m++L) (.tup [(true,htC (Jg5 r (mvS s f) (Jr2 (Je8 s f) r near far))),(false,[.bool (Jr2 (Je8 s f) r near far).isSome]),(false,[.int .i64 ((E.T r near far:Nat):Int)])]) (m++L)
 g:GoS s
theorem SetAt.app {m:Ja1}{p:Nat}{s:SC}{R:RWs}{f:Int}{E:SE}{a b:VW}(h:SetAt m p s R f E a b)(L:Ja1):SetAt (m++L) p s R f E a b where
 hp:=Ja3 h.hp L
 hR:=h.hR.app L
 hs:=by obtain ⟨k,e,q⟩:=h.hs;exact ⟨k,e,Ja3 q L⟩
 hl:=by obtain ⟨k,e,q⟩:=h.hl;exact ⟨k,e,Ja3 q L⟩
 hF:=fun L2 r near far=>by rw [List.append_assoc];exact h.hF (L++L2) r near far
 g:=h.g
theorem Kt8 (s:SC)(R:RWs)(f:Int)(E:SE)(a b:VW):seC s R f E a b=(scC s R++(.int .i64 f::E.x0::E.x1::.sl E.sb E.sv 0 s.nx::.sl E.lb E.lv 0 (Jp6 s s.nx).length::(vwC a++vwC b))):=rfl
theorem Kh5 (s:SC)(R:RWs)(f:Int)(E:SE)(a b:VW)(p:Nat)(i:Nat)(m:Ja1)(hS:SetAt m p s R f E a b)(hi:i<s.nx):Ctr Tryz.prog 53 [.one (.ptr p 0 0),.one (.int .i64 ((i:Int)))] m (.agg (pC s (s.xp i).toNat)) m:=by
 refine Ctr.en Tryz.func53 [.cell 4 140] 22 fun hwf Q hQ=>?_
 have hG:=hS.g
 have hps:=hS.hp
 have lps:=Ja8 hps
 obtain ⟨kp,ep,hp⟩:=hS.hR.hp
 have lp:=Ja8 hp
 obtain ⟨kx,ex,hx⟩:=hS.hR.hx
 have lx:=Ja8 hx
 have np:=hS.hR.np
 have nx:=hS.hR.nx
 have pl:(Jb0 s.np (pC s)).length=s.np*5:=Ja5 (w:=5) (F:=pC s) (fun _=>rfl) _
 have xl:(Jb0 s.nx (xC s)).length=s.nx*13:=Ja5 (w:=13) (F:=xC s) (fun _=>rfl) _
 obtain ⟨j,hj⟩:∃ j,j=(s.xp i).toNat:=⟨_,rfl⟩
 have hxj:s.xp i=(j:Int):=by have:=hG.xp i hi;omega
 have hjn:j<s.np:=by have:=hG.xp i hi;omega
 have d1:(0:Int)<=(j:Int):=by omega
 have d2:(j:Int)<(s.np:Int):=by omega
 have d3:j*5+5<=s.np*5:=by omega
 have d4:=Jb5 (w:=5) (F:=pC s) (fun _=>rfl) hjn
 have d5:=Kv5 s j
 have d6:List.take 3 (List.drop (j*5+1) (Jb0 s.np (pC s)))=[.int .i64 (s.pc j 0),.int .i64 (s.pc j 1),.int .i64 (s.pc j 2)]:=by
   have e:(Jb0 s.np (pC s)).drop (j*5+1)=((Jb0 s.np (pC s)).drop (j*5)).drop 1:=by rw [List.drop_drop]
   have q:=congrArg (fun l=>List.take 3 (List.drop 1 l)) (d4.trans d5)
   rw [List.drop_take,List.take_take] at q
   rw [e];exact q
 have d7:j*5+1+3<=s.np*5:=by omega
 have x1:(0:Int)<=(i:Int):=by omega
 have x2:(i:Int)<(s.nx:Int):=by omega
 have x3:i*13+13<=s.nx*13:=by omega
 have x4:(Jb0 s.nx (xC s))[i*13+1]?=some (.int .i64 (s.xp i)):=Ji4 (w:=13) (F:=xC s) (fun _=>rfl) hi (a:=1) (by omega)
 rw [<-hj] at hQ
 have U1:=ca4 hps (Ja3 hps) hp (ca4 (Ja3 hp) hx (Ja3 hx) (ca4 pl xl @Kt8 (ca4 @Je1 @Jd8 @Je0 (ca4 @Ja6 @Ka3 hxj (ca4 d1 d2 d3 (ca4 d4 d5 d6 (ca4 d7 x1 x2 (ca4 x3 x4 hjn hi))))))))
 exact AW.fd [[.val,.val,.val,.val,.rd 0,.val,.val,.val,.val,.rd 0,.val,.val,.val,.val,.rd 0,.val,.rd 0,.wr]] U1 Tru
theorem kyC_e (k:KY):kyC k=(Vc8 k.sd k.fr k.px k.sm):=rfl
theorem Xi7 (s:SC)(R:RWs)(f:Int)(E:SE)(a b:VW)(p:Nat)(k:KY)(d:Int)(h:HT)(hi:Nat)(t9:Int)(m:Ja1)(hS:SetAt m p s R f E a b)(hd:0<=d/\d<=1000)(hhi:h.i=(hi:Int))(hiH:hi<s.nx):Ctr Tryz.prog 54 [.one (.ptr p 0 0),.agg (kyC k),.one (.int .i64 d),.agg (htC h),.one (.int .i64 t9)] m (.agg (c3C (Jw8 (Je8 s f) k d h hi t9))) m:=by
 refine Ctr.en Tryz.func54 [.cell 10 42] 121 fun hwf Q hQ=>?_
 have hG:=hS.g
 have hps:=hS.hp
 have lps:=Ja8 hps
 obtain ⟨kp,ep,hp⟩:=hS.hR.hp
 have lp:=Ja8 hp
 obtain ⟨kx,ex,hx⟩:=hS.hR.hx
 have lx:=Ja8 hx
 have np:=hS.hR.np
 have nx:=hS.hR.nx
 have pl:(Jb0 s.np (pC s)).length=s.np*5:=Ja5 (w:=5) (F:=pC s) (fun _=>rfl) _
 have xl:(Jb0 s.nx (xC s)).length=s.nx*13:=Ja5 (w:=13) (F:=xC s) (fun _=>rfl) _
 have hFi:=hS.hF
 obtain ⟨ks,es,hs⟩:=hS.hs
 have ls:=Ja8 hs
 obtain ⟨kl,el,hl⟩:=hS.hl
 have ll:=Ja8 hl
 have sc:(Jb0 s.nx (mF (mvS s f))).length=s.nx*24:=Ja5 (w:=24) (F:=mF (mvS s f)) (fun _=>rfl) _
 obtain ⟨lm,hlm⟩:∃ l,l=Jp6 s s.nx:=⟨_,rfl⟩
 have hwl:(Je8 s f).lm=lm:=hlm.symm
 have hl16:=hS.g.lm
 have hllt:=Qe6 s s.nx
 rw [<-hlm] at hl hl16 hllt
 have lc:(iC lm).length=lm.length:=Jf5 _
 have wd1:IntKind.i64.wrap (d+1)=d+1:=wi (by omega)
 have wd2:IntKind.i64.wrap (d+2)=d+2:=wi (by omega)
 have U2:=ca4 hps (Ja3 hps) hs (ca4 (Ja3 hs) hl (Ja3 hl) (ca4 sc lc @Kt8 (ca4 @Je1 @Jd8 @Je0 (ca4 @Ja6 @Ka3 @Jp7 (ca4 @kyC_e @Qe8 hhi (ca3 wd1 wd2 hlm.symm))))))
 refine AW.c 1 U2 Tru ?_
 refine AW.q fun K J0=>?_
 refine AW.q fun K J1=>?_
 by_cases h0:lm=[]
 ·have hv:Jw8 (Je8 s f) k d h hi t9=z0V:=by unfold Jw8;rw [hwl,if_pos h0]
  rw [hv] at hQ
  have e0:((lm.length:Int) ==0)=true:=by rw [h0];rfl
  have U3:=ca3 U2 e0 @Js5
  refine AW.g U3 Tru ?_
  apply J1
  apply AW.y rfl
  refine AW.c 1 U3 Tru ?_
  exact AW.ret (hQ _ _ _ (RetP.z hwf Tru))
 have e0:((lm.length:Int) ==0)=false:=by have:=List.length_pos_iff.2 h0;simp;omega
 have hpos:=List.length_pos_iff.2 h0
 obtain ⟨jx,hjx,hjl⟩:∃ jx:Nat,Jz8 k.sd k.fr k.px k.sm d (lm.length:Int)=(jx:Int)/\jx<lm.length:=by
   unfold Jz8
   rw [if_neg (by omega)]
   obtain ⟨z,hz⟩:∃ z,z=Kk4 k.sd k.fr k.px k.sm d / 2%(lm.length:Int):=⟨_,rfl⟩
   have m1:=Int.emod_nonneg (Kk4 k.sd k.fr k.px k.sm d / 2) (show (lm.length:Int)≠0 by omega)
   have m2:=Int.emod_lt_of_pos (Kk4 k.sd k.fr k.px k.sm d / 2) (show 0<(lm.length:Int) by omega)
   rw [<-hz] at m1 m2 ⊢
   exact ⟨z.toNat,(Int.toNat_of_nonneg m1).symm,by omega⟩
 obtain ⟨l,hl9⟩:∃ l,l=lm.getD jx 0:=⟨_,rfl⟩
 have hli:Qm5 (Je8 s f) k d=l:=by unfold Qm5;rw [hwl,hjx,Int.toNat_natCast,<-hl9]
 have hcl:(iC lm)[jx]?=some (.int .i64 (l:Int)):=by rw [hl9];exact Ko6 hjl
 have hiL:l<s.nx:=hllt l (by rw [hl9,List.getD_eq_getElem?_getD,List.getElem?_eq_getElem hjl];exact List.getElem_mem _)
 have j1:(0:Int)<=(jx:Int):=by omega
 have j2:(jx:Int)<(lm.length:Int):=by omega
 have s1:(0:Int)<=(l:Int):=by omega
 have s2:(l:Int)<(s.nx:Int):=by omega
 have s3:l*24+24<=s.nx*24:=by omega
 have s4:=Jb5 (w:=24) (F:=mF (mvS s f)) (fun _=>rfl) hiL
 have s5:mF (mvS s f) l=[.int .i64 (mvS s f l).A.kind,.int .i64 (mvS s f l).A.paint,.int .i64 ((mvS s f l).A.P 0 0),.int .i64 ((mvS s f l).A.P 0 1),.int .i64 ((mvS s f l).A.P 0 2),.int .i64 ((mvS s f l).A.P 1 0),.int .i64 ((mvS s f l).A.P 1 1),.int .i64 ((mvS s f l).A.P 1 2),.int .i64 ((mvS s f l).A.P 2 0),.int .i64 ((mvS s f l).A.P 2 1),.int .i64 ((mvS s f l).A.P 2 2),.int .i64 (mvS s f l).A.r,.int .i64 (mvS s f l).B.kind,.int .i64 (mvS s f l).B.paint,.int .i64 ((mvS s f l).B.P 0 0),.int .i64 ((mvS s f l).B.P 0 1),.int .i64 ((mvS s f l).B.P 0 2),.int .i64 ((mvS s f l).B.P 1 0),.int .i64 ((mvS s f l).B.P 1 1),.int .i64 ((mvS s f l).B.P 1 2),.int .i64 ((mvS s f l).B.P 2 0),.int .i64 ((mvS s f l).B.P 2 1),.int .i64 ((mvS s f l).B.P 2 2),.int .i64 (mvS s f l).B.r]:=rfl
 have U4:=ca4 U2 e0 hcl (ca4 j1 j2 hjl (ca4 s1 s2 s3 (ca3 s4 s5 hiL)))
 refine AW.g U4 Tru ?_
 apply J1
 apply AW.x rfl
 apply AW.z
 apply J0
 have q_1:=Xb7 k.sd k.fr k.px k.sm d (lm.length:Int)
 rw [hjx] at q_1
 refine AW.d [.val,.val,.val,.rd 0,.rd 0,.val,.val,.val,.val,.rd 0,.val,.ext,.val,.rd 1,.val] fol U4 (q_1 _ (by omega)) ?_
 refine AW.q fun K J0=>?_
 refine AW.q fun K J1=>?_
 by_cases h1:l=hi
 ·have hv:Jw8 (Je8 s f) k d h hi t9=z0V:=by unfold Jw8;rw [hwl,if_neg h0,hli,if_pos h1]
  rw [hv] at hQ
  have e1:((l:Int) ==(hi:Int))=true:=by rw [h1];simp
  have U5:=ca3 U4 e1 @Js5
  refine AW.g U5 Tru ?_
  apply J1
  apply AW.y rfl
  refine AW.c 1 U5 Tru ?_
  exact AW.ret (hQ _ _ _ (RetP.z hwf Tru))
 have e1:((l:Int) ==(hi:Int))=false:=by simp;omega
 obtain ⟨Q,hQ9⟩:∃ Q,Q=Qm4 (Je8 s f) k d t9:=⟨_,rfl⟩
 have hQs:Ky7 (atM (mvS s f l) t9) (k.u (d+1)) (k.u (d+2))=Q:=by rw [hQ9];unfold Qm4;rw [hli];rfl
 obtain ⟨rc,hrc⟩:∃ rc,rc=Kc4 h.p h.n Q:=⟨_,rfl⟩
 obtain ⟨U,hU⟩:∃ U,U=Jb9 (Jb2 Q h.p):=⟨_,rfl⟩
 obtain ⟨FA,hFA⟩:∃ FA,FA=Kf8 (Jb2 Q h.p):=⟨_,rfl⟩
 have U6:=ca2 U4 e1
 refine AW.g U6 Tru ?_
 apply J1
 apply AW.x rfl
 apply AW.z
 apply J0
 have q_2:=Xf6 (atM (mvS s f l) t9) (k.u (d+1)) (k.u (d+2))
 rw [hQs] at q_2
 refine AW.d [.val,.val,.val,.val,.rd 0,.val,.val,.rd 0,.val,.ext,.rd 0,.val,.val,.ext,.rd 0,.val,.val,.ext,.ext,.fl,.wr] fol U6 (ca4 (at_c (mvS s f l) t9) (Va0 k.sd k.fr k.px k.sm (d+1)) (Va0 k.sd k.fr k.px k.sm (d+2)) q_2) ?_
 have q_3:=Vw2 h.p h.n Q
 rw [<-hrc,<-hU,<-hFA] at q_3
 refine AW.c 1 U6 q_3 ?_
 refine AW.q fun K J0=>?_
 refine AW.q fun K J1=>?_
 by_cases h2:rc=0
 ·have hv:Jw8 (Je8 s f) k d h hi t9=z0V:=by unfold Jw8;rw [hwl,if_neg h0,hli,if_neg h1,if_pos (by rw [<-hQ9,<-hrc];exact h2)]
  rw [hv] at hQ
  have e2:(rc ==0)=true:=beq_iff_eq.2 h2
  have U7:=ca3 U6 e2 @Js5
  refine AW.g U7 Tru ?_
  apply J1
  apply AW.y rfl
  refine AW.c 1 U7 Tru ?_
  exact AW.ret (hQ _ _ _ (RetP.z hwf Tru))
 have e2:(rc ==0)=false:=by simpa using h2
 obtain ⟨r9,hr9⟩:∃ r:RY,r=⟨h.p,U,t9⟩:=⟨_,rfl⟩
 have hr8:ryC r9=[.int .i64 (h.p 0),.int .i64 (h.p 1),.int .i64 (h.p 2),.int .i64 (U 0),.int .i64 (U 1),.int .i64 (U 2),.int .i64 t9]:=by rw [hr9];rfl
 obtain ⟨G,hG⟩:∃ G,G=Xi8 (Je8 s f) k d h t9:=⟨_,rfl⟩
 have hGf:Jr2 (Je8 s f) r9 1024 FA=G:=by rw [hG,hr9,hU,hFA,hQ9];rfl
 have U8:=ca2 U6 e2
 refine AW.g U8 Tru ?_
 apply J1
 apply AW.x rfl
 apply AW.z
 apply J0
 refine AW.q fun K J0=>?_
 refine AW.q fun K J1=>?_
 have hk10:G=none\/(∃ u9,G=some (u9,l))\/(∃ u9 j9,G=some (u9,j9)/\¬j9=l):=by
   rcases hG0:G with _|⟨u9,j9⟩
   · exact .inl rfl
   by_cases h3:j9=l
   · exact .inr (.inl ⟨u9,by rw [h3]⟩)
   exact .inr (.inr ⟨u9,j9,rfl,h3⟩)
 rcases hk10 with hG0|⟨u9,hG0⟩|⟨u9,j9,hG0,h3⟩
 ·have hb0:¬hidB l none=true:=fun q=>(nomatch q)
  have hz8:htC (Jg5 r9 (mvS s f) none)=[.int .i64 0,.int .i64 0,.int .i64 0,.int .i64 0,.int .i64 0,.int .i64 0,.int .i64 0,.int .i64 0]:=rfl
  obtain ⟨jh,hjH⟩:∃ j,j=(s.xp hi).toNat:=⟨_,rfl⟩
  obtain ⟨jl,hjK⟩:∃ j,j=(s.xp l).toNat:=⟨_,rfl⟩
  have dH:=Kv5 s jh
  have dK:=Kv5 s jl
  have hv:Jw8 (Je8 s f) k d h hi t9=Je7 (Jf6 (s.pc jh) (s.pc jl)) (Jd2 rc (ofI (lm.length:Int))):=by
    unfold Jw8
    rw [hwl,if_neg h0,hli,if_neg h1,if_neg (by rw [<-hQ9,<-hrc];exact h2),if_neg (by rw [<-hG,hG0];exact hb0),<-hQ9,<-hrc]
    show Je7 (Jf6 (s.pc (s.xp hi).toNat) (s.pc (s.xp l).toNat)) _=_
    rw [<-hjH,<-hjK]
  rw [hv] at hQ
  have q_4:=fun L=>hFi L r9 1024 FA
  rw [hGf,hG0,hr8] at q_4
  have U9:=ca4 U8 hz8 dH dK
  refine AW.e [.val,.val,.val,.rd 0,.val,.rd 0,.rd 0,.val,.val,.val,.ext,.val,.val,.val,.val,.fl,.wr,.val,.val] fol U9 q_4 ?_
  apply J1
  refine AW.c 1 U9 Tru ?_
  apply AW.x rfl
  apply AW.z
  apply J0
  have q_5:=Kh5 s R f E a b p hi
  rw [<-hjH] at q_5
  have q_6:=Kh5 s R f E a b p l
  rw [<-hjK] at q_6
  refine AW.c 1 U9 (ca3 (q_5 _ (hS.app _) hiH) (q_6 _ (hS.app _) hiL) (Ki9 (s.pc jh) (s.pc jl))) ?_
  refine AW.d [.rd 0,.val,.val,.val,.val,.rd 0,.val,.ext,.ext,.ext,.wr] fol U9 (ca3 of_c Jm1 (Qf4 (Jf6 (s.pc jh) (s.pc jl)) (Jd2 rc (ofI (lm.length:Int))))) ?_
  exact AW.ret (hQ _ _ _ (RetP.z hwf Tru))
 ·have hz9:(Jg5 r9 (mvS s f) (some (u9,l))).i=(l:Int):=rfl
  have e3:((l:Int) !=(l:Int))=false:=by simp
  have hb0:¬hidB l (some (u9,l))=true:=by show ¬(!(l ==l))=true;simp
  obtain ⟨jh,hjH⟩:∃ j,j=(s.xp hi).toNat:=⟨_,rfl⟩
  obtain ⟨jl,hjK⟩:∃ j,j=(s.xp l).toNat:=⟨_,rfl⟩
  have dH:=Kv5 s jh
  have dK:=Kv5 s jl
  have hv:Jw8 (Je8 s f) k d h hi t9=Je7 (Jf6 (s.pc jh) (s.pc jl)) (Jd2 rc (ofI (lm.length:Int))):=by
    unfold Jw8
    rw [hwl,if_neg h0,hli,if_neg h1,if_neg (by rw [<-hQ9,<-hrc];exact h2),if_neg (by rw [<-hG,hG0];exact hb0),<-hQ9,<-hrc]
    show Je7 (Jf6 (s.pc (s.xp hi).toNat) (s.pc (s.xp l).toNat)) _=_
    rw [<-hjH,<-hjK]
  rw [hv] at hQ
  have q_7:=fun L=>hFi L r9 1024 FA
  rw [hGf,hG0,hr8] at q_7
  have U10:=ca4 U8 hz9 e3 (ca2 dH dK)
  refine AW.e [.val,.val,.val,.rd 0,.val,.rd 0,.rd 0,.val,.val,.val,.ext,.val,.val,.val,.val,.fl,.wr,.val,.val] fol U10 q_7 ?_
  apply J1
  refine AW.c 1 U10 Tru ?_
  apply AW.x rfl
  apply AW.z
  apply J0
  have q_8:=Kh5 s R f E a b p hi
  rw [<-hjH] at q_8
  have q_9:=Kh5 s R f E a b p l
  rw [<-hjK] at q_9
  refine AW.c 1 U10 (ca3 (q_8 _ (hS.app _) hiH) (q_9 _ (hS.app _) hiL) (Ki9 (s.pc jh) (s.pc jl))) ?_
  refine AW.d [.rd 0,.val,.val,.val,.val,.rd 0,.val,.ext,.ext,.ext,.wr] fol U10 (ca3 of_c Jm1 (Qf4 (Jf6 (s.pc jh) (s.pc jl)) (Jd2 rc (ofI (lm.length:Int))))) ?_
  exact AW.ret (hQ _ _ _ (RetP.z hwf Tru))
 have hz9:(Jg5 r9 (mvS s f) (some (u9,j9))).i=(j9:Int):=rfl
 have e3:((j9:Int) !=(l:Int))=true:=by simp;omega
 have hv:Jw8 (Je8 s f) k d h hi t9=z0V:=by unfold Jw8;rw [hwl,if_neg h0,hli,if_neg h1,if_neg (by rw [<-hQ9,<-hrc];exact h2),if_pos (by rw [<-hG,hG0];show (!(j9 ==l))=true;simpa using h3)]
 rw [hv] at hQ
 have q_10:=fun L=>hFi L r9 1024 FA
 rw [hGf,hG0,hr8] at q_10
 have U11:=ca4 U8 hz9 e3 @Js5
 refine AW.e [.val,.val,.val,.rd 0,.val,.rd 0,.rd 0,.val,.val,.val,.ext,.val,.val,.val,.val,.fl,.wr,.val,.val] fol U11 q_10 ?_
 apply J1
 refine AW.c 1 U11 Tru ?_
 apply AW.y rfl
 refine AW.c 1 U11 Tru ?_
 exact AW.ret (hQ _ _ _ (RetP.z hwf Tru))
structure QT where
 (b:Nat) (s:TS)
noncomputable def Jh2 (s:SC)(f:Int)(a b:VW)(x y sm:Int):SN:=Jx8 (Je8 s f) (Qm8 s f x y sm) s.dp.toNat 0 ⟨Qs7 ((Qm8 s f x y sm).u 2),fun _=>65536,true,Xd2 (Xi0 a b ((Qm8 s f x y sm).u 2)) x y ((Qm8 s f x y sm).u 0) ((Qm8 s f x y sm).u 1) ((Qm8 s f x y sm).u 2)⟩
theorem Jx0 (k:KY)(i:Int)(m:Ja1):Ctr Tryz.prog 47 [.agg (kyC k),.one (.int .i64 i)] m (.one (.int .i64 (k.u i))) m:=Va0 k.sd k.fr k.px k.sm i m
theorem Kp5 (s:SC)(R:RWs)(f:Int)(E:SE)(a b:VW)(p:Nat)(x y sm:Int)(m:Ja1)(hS:SetAt m p s R f E a b)(hx0:0<=x)(hx1:x<s.w)(hy0:0<=y)(hy1:y<s.h):Ctr Tryz.prog 13 [.one (.ptr p 0 0),.one (.int .i64 x),.one (.int .i64 y),.one (.int .i64 sm)] m (.agg (snC (Jh2 s f a b x y sm))) m:=by
 refine Ctr.en Tryz.func13 [.cell 8 61] 232 fun hwf Q hQ=>?_
 have hps:=hS.hp
 have lps:=Ja8 hps
 have hG:=hS.g
 have hFi:=hS.hF
 have hgw:=hG.w
 have hgh:=hG.h
 have hgd:=hG.dp
 have h1:¬x<0:=by omega
 have h2:¬s.w<=x:=by omega
 have h3:¬y<0:=by omega
 have h4:¬s.h<=y:=by omega
 have hm1:0<=y*s.w:=Int.mul_nonneg (by omega) (by omega)
 have hm2:y*s.w<=64*64:=Int.mul_le_mul (by omega) (by omega) (by omega) (by omega)
 obtain ⟨yw,hyw⟩:∃ z,y*s.w=z:=⟨_,rfl⟩
 rw [hyw] at hm1 hm2
 have w1:IntKind.i64.wrap yw=yw:=wi (by omega)
 have w2:IntKind.i64.wrap (yw+x)=yw+x:=wi (by omega)
 obtain ⟨R9,hR0⟩:∃ R,Jh2 s f a b x y sm=R:=⟨_,rfl⟩
 rw [hR0] at hQ
 unfold Jh2 at hR0
 obtain ⟨k,hk⟩:∃ k,Qm8 s f x y sm=k:=⟨_,rfl⟩
 rw [hk] at hR0
 have hkc:kyC k=[.int .u64 s.sd,.int .i64 f,.int .i64 (yw+x),.int .i64 sm]:=by rw [<-hk,<-hyw];rfl
 obtain ⟨pt,hpt⟩:∃ z,k.u 2=z:=⟨_,rfl⟩
 obtain ⟨u0,hu0⟩:∃ z,k.u 0=z:=⟨_,rfl⟩
 obtain ⟨u1,hu1⟩:∃ z,k.u 1=z:=⟨_,rfl⟩
 rw [hpt,hu0,hu1] at hR0
 obtain ⟨r0,hr0⟩:∃ r,Xd2 (Xi0 a b pt) x y u0 u1 pt=r:=⟨_,rfl⟩
 rw [hr0] at hR0
 have hry:=Xf7 r0
 have hdn:((s.dp.toNat:Nat):Int)=s.dp:=Int.toNat_of_nonneg (by omega)
 have U1:=ca4 hps (Ja3 hps) @Kt8 (ca4 @Je1 @Jd8 @Je0 (ca4 @Ja6 @Ka3 h1 (ca4 h2 h3 h4 (ca3 hyw w1 w2))))
 refine AW.wd [[.val,.val,.val,.val,.val,.rd 0,.val,.val,.val,.rd 0,.val,.val,.val,.val,.val,.val,.rd 0,.val,.val,.val,.val,.val,.ext,.wr]] 7 U1 Tru ?_
 have q_1:=Jx0 k (2)
 rw [hkc,hpt] at q_1
 refine AW.c 1 U1 q_1 ?_
 have q_2:=Jx0 k (0)
 rw [hkc,hu0] at q_2
 have q_3:=Jx0 k (1)
 rw [hkc,hu1] at q_3
 have q_4:=Xd7 (Xi0 a b pt) x y u0 u1 pt
 rw [hr0,hry] at q_4
 refine AW.wd [[.val,.val,.val,.rd 0,.val,.val,.val,.rd 0,.val,.rd 0,.ext,.val,.val,.rd 0,.ext,.rd 0,.ext,.val,.rd 0,.ext,.fl,.wr]] 5 U1 (ca4 (Xh8 a b pt) q_2 q_3 (ca2 q_4 (Kr7 65536))) fun K J0=>?_
 refine AW.loopK [0,8,9,10,11,12,103] (fun (q:QT)=>q.b<=s.dp.toNat/\Jx8 (Je8 s f) k (s.dp.toNat - q.b) q.b q.s=R9) (fun (q:QT)=>[(13,.one (.bool q.s.sharp)),(104,.one (.int .i64 ((q.b:Int))))]) (fun (q:QT)=>[(m.length+2,⟨.fix,61,0,0,[.int .i64 (q.s.s.li 0),.int .i64 (q.s.s.li 1),.int .i64 (q.s.s.li 2),.int .i64 (q.s.s.dep),.int .i64 (q.s.s.no 0),.int .i64 (q.s.s.no 1),.int .i64 (q.s.s.no 2),.int .i64 (q.s.s.po 0),.int .i64 (q.s.s.po 1),.int .i64 (q.s.s.po 2),.int .i64 (q.s.s.ba 0),.int .i64 (q.s.s.ba 1),.int .i64 (q.s.s.ba 2),.int .i64 (q.s.s.sh),.int .i64 (q.s.s.pt)]⟩),(m.length+3,⟨.fix,161,0,0,[.int .i64 (q.s.r.o 0),.int .i64 (q.s.r.o 1),.int .i64 (q.s.r.o 2),.int .i64 (q.s.r.d 0),.int .i64 (q.s.r.d 1),.int .i64 (q.s.r.d 2),.int .i64 (q.s.r.part)]⟩),(m.length+4,⟨.fix,42,0,0,[.int .i64 (q.s.w 0),.int .i64 (q.s.w 1),.int .i64 (q.s.w 2)]⟩)]) (fun (q:QT)=>s.dp.toNat - q.b) ⟨0,⟨Qs7 pt,fun _=>65536,true,r0⟩⟩ ⟨Nat.zero_le _,hR0⟩ ?_ ?_ fun (q:QT) hi3=>?_
 · first|rfl|(simp only [KS,simprocAttr,Qs7,Int.natCast_zero]<;>repeat' (first|rfl|apply And.intro))
 · (simp only [Ja4,push_cast,simprocAttr,Qs7])<;>rfl
 obtain ⟨bb,⟨sn,wt,shp,rr⟩⟩:=q
 have hq:=hi3
 dsimp only at hq ⊢
 obtain ⟨hbd,hR9⟩:=hq
 try simp only [Jb3,Ja4,push_cast,simprocAttr,U1]
 refine AW.w 2 U1 Tru fun K J1=>?_
 refine AW.cond rfl (fun h105=>?_) (fun h105=>?_)
 ·have hbn:bb<s.dp.toNat:=by have:=of_decide_eq_true h105;omega
  obtain ⟨d,hd9⟩:∃ d:Int,d=3+8*(bb:Int):=⟨_,rfl⟩
  have hdp9:=hG.dp
  have wd8:IntKind.i64.wrap (8*(bb:Int))=8*(bb:Int):=wi (by omega)
  have wd9:IntKind.i64.wrap (3+8*(bb:Int))=d:=by rw [hd9];exact wi (by omega)
  have wd3:IntKind.i64.wrap (d+3)=d+3:=wi (by omega)
  have wd4:IntKind.i64.wrap (d+4)=d+4:=wi (by omega)
  have wd5:IntKind.i64.wrap (d+5)=d+5:=wi (by omega)
  have hdr:0<=d/\d<=1000:=by omega
  have hwi:IntKind.i64.wrap ((bb:Int)+1)=(bb:Int)+1:=wi (by omega)
  refine AW.w 4 Tru Tru fun K J1=>?_
  have U2:=ca4 U1 wd8 wd9 (ca4 wd3 wd4 wd5 hwi)
  refine AW.c 2 U2 Tru ?_
  refine AW.q fun K J2=>?_
  rcases hF0:Jr2 (Je8 s f) rr 1024 2147483648 with _|⟨t9,i9⟩
  ·have hz8:htC (Jg5 rr (mvS s f) none)=[.int .i64 0,.int .i64 0,.int .i64 0,.int .i64 0,.int .i64 0,.int .i64 0,.int .i64 0,.int .i64 0]:=rfl
   have hR8:R9=sn.add (Jf6 wt s.sk):=by rw [<-hR9];exact Jq0 hbn (by rw [<-hd9];exact Kt5 hF0)
   have hv:snC R9=[.int .i64 (Jf9 sn.li (Jf6 wt s.sk) 0),.int .i64 (Jf9 sn.li (Jf6 wt s.sk) 1),.int .i64 (Jf9 sn.li (Jf6 wt s.sk) 2),.int .i64 (sn.dep),.int .i64 (sn.no 0),.int .i64 (sn.no 1),.int .i64 (sn.no 2),.int .i64 (sn.po 0),.int .i64 (sn.po 1),.int .i64 (sn.po 2),.int .i64 (sn.ba 0),.int .i64 (sn.ba 1),.int .i64 (sn.ba 2),.int .i64 (sn.sh),.int .i64 (sn.pt)]:=by rw [hR8];rfl
   rw [hv] at hQ
   have q_5:=fun L=>hFi L rr 1024 2147483648
   rw [hF0] at q_5
   have U3:=ca2 U2 hz8
   exact AW.fd [[.val,.val,.val,.rd 0,.rd 0,.ext,.val,.val,.val,.val,.fl,.wr,.val,.val],[.val,.rd 0,.rd 0,.val,.val,.val,.val,.val,.rd 0,.ext,.ext,.val,.wr]] U3 (ca3 q_5 (Ki9 wt s.sk) (Qf8 sn.li (Jf6 wt s.sk)))
  obtain ⟨jj,hjj⟩:∃ j,j=(s.xp i9).toNat:=⟨_,rfl⟩
  have dP:=Kv5 s jj
  have hi9:i9<s.nx:=Ky6 hF0
  obtain ⟨h,hh⟩:∃ h,Kb6 (Je8 s f) rr t9 i9=h:=⟨_,rfl⟩
  have hbh:Jg5 rr (mvS s f) (some (t9,i9))=h:=hh
  have hhi:h.i=(i9:Int):=by rw [<-hh];rfl
  have hht:htC h=[.int .i64 h.t,.int .i64 (i9:Int),.int .i64 (h.p 0),.int .i64 (h.p 1),.int .i64 (h.p 2),.int .i64 (h.n 0),.int .i64 (h.n 1),.int .i64 (h.n 2)]:=by unfold htC;rw [hhi];rfl
  obtain ⟨sn1,hsn1⟩:∃ x,Jy3 (Je8 s f) bb sn h i9=x:=⟨_,rfl⟩
  obtain ⟨sn2,hsn2⟩:∃ x,liS (Je8 s f) k d ⟨sn,wt,shp,rr⟩ sn1 h i9=x:=⟨_,rfl⟩
  obtain ⟨T,hT⟩:∃ x,Ka4 (Je8 s f) k d ⟨sn,wt,shp,rr⟩ h i9=x:=⟨_,rfl⟩
  have hT1:Kf4 (s.pk jj) (s.pc jj) (s.pr jj) rr.d h.n (k.u (d+3)) (k.u (d+4))=T:=by rw [<-hT,hjj];rfl
  have hkd:(Je8 s f).kd i9=s.pk jj:=by rw [hjj];rfl
  have hcl:(Je8 s f).cl i9=s.pc jj:=by rw [hjj];rfl
  have hp1:sn1.pt=sn.pt:=by rw [<-hsn1];unfold Jy3;split<;>rfl
  have hp2:sn2.pt=sn.pt:=by rw [<-hp1,<-hsn2];unfold liS;split<;>rfl
  have q_6:=fun L=>hFi L rr 1024 2147483648
  rw [hF0,hbh] at q_6
  have U4:=ca4 U2 dP hhi @Jp7
  refine AW.wd [[.val,.val,.val,.rd 0,.rd 0,.ext,.val,.val,.val,.val,.fl,.wr,.val,.val]] 7 U4 q_6 ?_
  have q_7:=Kh5 s R f E a b p i9
  rw [<-hjj] at q_7
  refine AW.w 3 U4 (q_7 _ (hS.app _) hi9) fun K J2=>?_
  refine AW.condJ rfl [0,8,9,10,11,12,13,14,15,16,19,103,104] [] [(m.length+2,⟨.fix,61,0,0,[.int .i64 (sn1.li 0),.int .i64 (sn1.li 1),.int .i64 (sn1.li 2),.int .i64 (sn1.dep),.int .i64 (sn1.no 0),.int .i64 (sn1.no 1),.int .i64 (sn1.no 2),.int .i64 (sn1.po 0),.int .i64 (sn1.po 1),.int .i64 (sn1.po 2),.int .i64 (sn1.ba 0),.int .i64 (sn1.ba 1),.int .i64 (sn1.ba 2),.int .i64 (sn1.sh),.int .i64 (sn1.pt)]⟩)] (fun h140=>?_) (fun h140=>?_) ?_
  ·have hb0:bb=0:=by have:=eq_of_beq h140;omega
   have X1:sn1=⟨sn.li,h.t,h.n,h.p,(Je8 s f).cl i9,(i9:Int),sn.pt⟩:=by rw [<-hsn1];exact if_pos hb0
   rw [hcl] at X1
   have p1li0:sn1.li 0=sn.li 0:=by have q:=congrArg (fun z:SN=>z.li 0) X1;exact q
   have p1li1:sn1.li 1=sn.li 1:=by have q:=congrArg (fun z:SN=>z.li 1) X1;exact q
   have p1li2:sn1.li 2=sn.li 2:=by have q:=congrArg (fun z:SN=>z.li 2) X1;exact q
   have p1no0:sn1.no 0=h.n 0:=by have q:=congrArg (fun z:SN=>z.no 0) X1;exact q
   have p1no1:sn1.no 1=h.n 1:=by have q:=congrArg (fun z:SN=>z.no 1) X1;exact q
   have p1no2:sn1.no 2=h.n 2:=by have q:=congrArg (fun z:SN=>z.no 2) X1;exact q
   have p1po0:sn1.po 0=h.p 0:=by have q:=congrArg (fun z:SN=>z.po 0) X1;exact q
   have p1po1:sn1.po 1=h.p 1:=by have q:=congrArg (fun z:SN=>z.po 1) X1;exact q
   have p1po2:sn1.po 2=h.p 2:=by have q:=congrArg (fun z:SN=>z.po 2) X1;exact q
   have p1ba0:sn1.ba 0=s.pc jj 0:=by have q:=congrArg (fun z:SN=>z.ba 0) X1;exact q
   have p1ba1:sn1.ba 1=s.pc jj 1:=by have q:=congrArg (fun z:SN=>z.ba 1) X1;exact q
   have p1ba2:sn1.ba 2=s.pc jj 2:=by have q:=congrArg (fun z:SN=>z.ba 2) X1;exact q
   have p1dep:sn1.dep=h.t:=by have q:=congrArg (fun z:SN=>z.dep) X1;exact q
   have p1sh:sn1.sh=(i9:Int):=by have q:=congrArg (fun z:SN=>z.sh) X1;exact q
   have p1pt:sn1.pt=sn.pt:=by have q:=congrArg (fun z:SN=>z.pt) X1;exact q
   refine AW.wd [[.val,.rd 0,.val,.rw 0,.val,.rw 0,.val,.rw 0,.val,.rw 0,.val,.wr,.val,.wr,.val,.wr,.val,.wr,.val,.wr]] 1 U4 Tru ?_
   try simp only [Jb3,Ja4,push_cast,simprocAttr,U4,p1li0,p1li1,p1li2,p1no0,p1no1,p1no2,p1po0,p1po1,p1po2,p1ba0,p1ba1,p1ba2,p1dep,p1sh,p1pt]
   exact Weak.same (by simp only [KS,simprocAttr,p1li0,p1li1,p1li2,p1no0,p1no1,p1no2,p1po0,p1po1,p1po2,p1ba0,p1ba1,p1ba2,p1dep,p1sh,p1pt]) (by first|rfl|simp only [KS,simprocAttr,p1li0,p1li1,p1li2,p1no0,p1no1,p1no2,p1po0,p1po1,p1po2,p1ba0,p1ba1,p1ba2,p1dep,p1sh,p1pt])
  ·have hb0:¬bb=0:=fun q=>by rw [q] at h140;cases h140
   have X1:sn1=sn:=by rw [<-hsn1];exact if_neg hb0
   have p1li0:sn1.li 0=sn.li 0:=by have q:=congrArg (fun z:SN=>z.li 0) X1;exact q
   have p1li1:sn1.li 1=sn.li 1:=by have q:=congrArg (fun z:SN=>z.li 1) X1;exact q
   have p1li2:sn1.li 2=sn.li 2:=by have q:=congrArg (fun z:SN=>z.li 2) X1;exact q
   have p1no0:sn1.no 0=sn.no 0:=by have q:=congrArg (fun z:SN=>z.no 0) X1;exact q
   have p1no1:sn1.no 1=sn.no 1:=by have q:=congrArg (fun z:SN=>z.no 1) X1;exact q
   have p1no2:sn1.no 2=sn.no 2:=by have q:=congrArg (fun z:SN=>z.no 2) X1;exact q
   have p1po0:sn1.po 0=sn.po 0:=by have q:=congrArg (fun z:SN=>z.po 0) X1;exact q
   have p1po1:sn1.po 1=sn.po 1:=by have q:=congrArg (fun z:SN=>z.po 1) X1;exact q
   have p1po2:sn1.po 2=sn.po 2:=by have q:=congrArg (fun z:SN=>z.po 2) X1;exact q
   have p1ba0:sn1.ba 0=sn.ba 0:=by have q:=congrArg (fun z:SN=>z.ba 0) X1;exact q
   have p1ba1:sn1.ba 1=sn.ba 1:=by have q:=congrArg (fun z:SN=>z.ba 1) X1;exact q
   have p1ba2:sn1.ba 2=sn.ba 2:=by have q:=congrArg (fun z:SN=>z.ba 2) X1;exact q
   have p1dep:sn1.dep=sn.dep:=by have q:=congrArg (fun z:SN=>z.dep) X1;exact q
   have p1sh:sn1.sh=sn.sh:=by have q:=congrArg (fun z:SN=>z.sh) X1;exact q
   have p1pt:sn1.pt=sn.pt:=by have q:=congrArg (fun z:SN=>z.pt) X1;exact q
   refine AW.w 1 Tru Tru ?_
   try simp only [Jb3,Ja4,push_cast,simprocAttr,U4,p1li0,p1li1,p1li2,p1no0,p1no1,p1no2,p1po0,p1po1,p1po2,p1ba0,p1ba1,p1ba2,p1dep,p1sh,p1pt]
   exact Weak.same (by simp only [KS,simprocAttr,p1li0,p1li1,p1li2,p1no0,p1no1,p1no2,p1po0,p1po1,p1po2,p1ba0,p1ba1,p1ba2,p1dep,p1sh,p1pt]) (by first|rfl|simp only [KS,simprocAttr,p1li0,p1li1,p1li2,p1no0,p1no1,p1no2,p1po0,p1po1,p1po2,p1ba0,p1ba1,p1ba2,p1dep,p1sh,p1pt])
  try simp only [Jb3,Ja4,push_cast,simprocAttr,U4]
  refine AW.w 4 U4 Tru fun K J2=>?_
  refine AW.q fun K J3=>?_
  have hk19:(s.pk jj=3/\shp=true)\/(s.pk jj=3/\shp=false)\/¬s.pk jj=3:=by cases shp<;>simp<;>omega
  rcases hk19 with ⟨h3,hsp⟩|⟨h3,hsp⟩|h3
  ·have h3w:(Je8 s f).kd i9=3:=hkd.trans h3
   have k3:(s.pk jj ==3)=true:=beq_iff_eq.2 h3
   subst hsp
   have hR8:R9=sn1.add (Jf6 wt ((Je8 s f).cl i9)):=by rw [<-hR9];exact Jq0 hbn (by rw [<-hd9];exact Qr8 hF0 hh hsn1 h3w rfl)
   rw [hcl] at hR8
   have hv:snC R9=[.int .i64 (Jf9 sn1.li (Jf6 wt (s.pc jj)) 0),.int .i64 (Jf9 sn1.li (Jf6 wt (s.pc jj)) 1),.int .i64 (Jf9 sn1.li (Jf6 wt (s.pc jj)) 2),.int .i64 (sn1.dep),.int .i64 (sn1.no 0),.int .i64 (sn1.no 1),.int .i64 (sn1.no 2),.int .i64 (sn1.po 0),.int .i64 (sn1.po 1),.int .i64 (sn1.po 2),.int .i64 (sn1.ba 0),.int .i64 (sn1.ba 1),.int .i64 (sn1.ba 2),.int .i64 (sn1.sh),.int .i64 (sn1.pt)]:=by rw [hR8];rfl
   rw [hv] at hQ
   have U5:=ca2 U4 k3
   exact AW.fd [[.val,.rd 0,.rd 0,.val,.rd 0,.ext,.ext,.val,.wr]] U5 (ca2 (Ki9 wt (s.pc jj)) (Qf8 sn1.li (Jf6 wt (s.pc jj))))
  ·have h3w:(Je8 s f).kd i9=3:=hkd.trans h3
   have k3:(s.pk jj ==3)=true:=beq_iff_eq.2 h3
   subst hsp
   have hR8:R9=sn1:=by rw [<-hR9];exact Jq0 hbn (by rw [<-hd9];exact Qr9 hF0 hh hsn1 h3w rfl)
   have hv:snC R9=[.int .i64 (sn1.li 0),.int .i64 (sn1.li 1),.int .i64 (sn1.li 2),.int .i64 (sn1.dep),.int .i64 (sn1.no 0),.int .i64 (sn1.no 1),.int .i64 (sn1.no 2),.int .i64 (sn1.po 0),.int .i64 (sn1.po 1),.int .i64 (sn1.po 2),.int .i64 (sn1.ba 0),.int .i64 (sn1.ba 1),.int .i64 (sn1.ba 2),.int .i64 (sn1.sh),.int .i64 (sn1.pt)]:=by rw [hR8];rfl
   rw [hv] at hQ
   have U6:=ca2 U4 k3
   exact AW.f U6 Tru
  have h3w:¬(Je8 s f).kd i9=3:=fun q=>h3 (hkd.symm.trans q)
  have k3:(s.pk jj ==3)=false:=by simpa using h3
  have U7:=ca2 U4 k3
  refine AW.w 4 U7 Tru ?_
  refine AW.condJ rfl [0,8,9,10,11,12,14,15,16,19,103,104] [] [(m.length+2,⟨.fix,61,0,0,[.int .i64 (sn2.li 0),.int .i64 (sn2.li 1),.int .i64 (sn2.li 2),.int .i64 (sn2.dep),.int .i64 (sn2.no 0),.int .i64 (sn2.no 1),.int .i64 (sn2.no 2),.int .i64 (sn2.po 0),.int .i64 (sn2.po 1),.int .i64 (sn2.po 2),.int .i64 (sn2.ba 0),.int .i64 (sn2.ba 1),.int .i64 (sn2.ba 2),.int .i64 (sn2.sh),.int .i64 (sn2.pt)]⟩)] (fun h170=>?_) (fun h170=>?_) ?_
  ·have hk0:s.pk jj=0:=eq_of_beq h170
   obtain ⟨lv,hlv⟩:∃ l,Jw8 (Je8 s f) k d h i9 sn1.pt=l:=⟨_,rfl⟩
   have X2:sn2=sn1.add (Jf6 wt lv):=by rw [<-hsn2,<-hlv];exact if_pos (hkd.trans hk0)
   have p2li0:sn2.li 0=Jf9 sn1.li (Jf6 wt lv) 0:=by have q:=congrArg (fun z:SN=>z.li 0) X2;exact q
   have p2li1:sn2.li 1=Jf9 sn1.li (Jf6 wt lv) 1:=by have q:=congrArg (fun z:SN=>z.li 1) X2;exact q
   have p2li2:sn2.li 2=Jf9 sn1.li (Jf6 wt lv) 2:=by have q:=congrArg (fun z:SN=>z.li 2) X2;exact q
   have p2no0:sn2.no 0=sn1.no 0:=by have q:=congrArg (fun z:SN=>z.no 0) X2;exact q
   have p2no1:sn2.no 1=sn1.no 1:=by have q:=congrArg (fun z:SN=>z.no 1) X2;exact q
   have p2no2:sn2.no 2=sn1.no 2:=by have q:=congrArg (fun z:SN=>z.no 2) X2;exact q
   have p2po0:sn2.po 0=sn1.po 0:=by have q:=congrArg (fun z:SN=>z.po 0) X2;exact q
   have p2po1:sn2.po 1=sn1.po 1:=by have q:=congrArg (fun z:SN=>z.po 1) X2;exact q
   have p2po2:sn2.po 2=sn1.po 2:=by have q:=congrArg (fun z:SN=>z.po 2) X2;exact q
   have p2ba0:sn2.ba 0=sn1.ba 0:=by have q:=congrArg (fun z:SN=>z.ba 0) X2;exact q
   have p2ba1:sn2.ba 1=sn1.ba 1:=by have q:=congrArg (fun z:SN=>z.ba 1) X2;exact q
   have p2ba2:sn2.ba 2=sn1.ba 2:=by have q:=congrArg (fun z:SN=>z.ba 2) X2;exact q
   have p2dep:sn2.dep=sn1.dep:=by have q:=congrArg (fun z:SN=>z.dep) X2;exact q
   have p2sh:sn2.sh=sn1.sh:=by have q:=congrArg (fun z:SN=>z.sh) X2;exact q
   have p2pt:sn2.pt=sn1.pt:=by have q:=congrArg (fun z:SN=>z.pt) X2;exact q
   have q_8:=Xi7 s R f E a b p k d h i9 sn1.pt
   rw [hkc,hlv,hht] at q_8
   refine AW.wd [[.val,.rd 0,.rd 0,.val,.rd 0,.val,.rd 0,.val,.rd 0,.ext,.ext,.ext,.val,.wr]] 1 U7 (ca3 (q_8 _ (hS.app _) hdr hhi hi9) (Ki9 wt lv) (Qf8 sn1.li (Jf6 wt lv))) ?_
   try simp only [Jb3,Ja4,push_cast,simprocAttr,U7,p2li0,p2li1,p2li2,p2no0,p2no1,p2no2,p2po0,p2po1,p2po2,p2ba0,p2ba1,p2ba2,p2dep,p2sh,p2pt]
   exact Weak.same (by simp only [KS,simprocAttr,p2li0,p2li1,p2li2,p2no0,p2no1,p2no2,p2po0,p2po1,p2po2,p2ba0,p2ba1,p2ba2,p2dep,p2sh,p2pt]) (by first|rfl|simp only [KS,simprocAttr,p2li0,p2li1,p2li2,p2no0,p2no1,p2no2,p2po0,p2po1,p2po2,p2ba0,p2ba1,p2ba2,p2dep,p2sh,p2pt])
  ·have hk0:¬s.pk jj=0:=fun q=>by rw [q] at h170;cases h170
   have X2:sn2=sn1:=by rw [<-hsn2];exact if_neg (fun q=>hk0 (hkd.symm.trans q))
   have p2li0:sn2.li 0=sn1.li 0:=by have q:=congrArg (fun z:SN=>z.li 0) X2;exact q
   have p2li1:sn2.li 1=sn1.li 1:=by have q:=congrArg (fun z:SN=>z.li 1) X2;exact q
   have p2li2:sn2.li 2=sn1.li 2:=by have q:=congrArg (fun z:SN=>z.li 2) X2;exact q
   have p2no0:sn2.no 0=sn1.no 0:=by have q:=congrArg (fun z:SN=>z.no 0) X2;exact q
   have p2no1:sn2.no 1=sn1.no 1:=by have q:=congrArg (fun z:SN=>z.no 1) X2;exact q
   have p2no2:sn2.no 2=sn1.no 2:=by have q:=congrArg (fun z:SN=>z.no 2) X2;exact q
   have p2po0:sn2.po 0=sn1.po 0:=by have q:=congrArg (fun z:SN=>z.po 0) X2;exact q
   have p2po1:sn2.po 1=sn1.po 1:=by have q:=congrArg (fun z:SN=>z.po 1) X2;exact q
   have p2po2:sn2.po 2=sn1.po 2:=by have q:=congrArg (fun z:SN=>z.po 2) X2;exact q
   have p2ba0:sn2.ba 0=sn1.ba 0:=by have q:=congrArg (fun z:SN=>z.ba 0) X2;exact q
   have p2ba1:sn2.ba 1=sn1.ba 1:=by have q:=congrArg (fun z:SN=>z.ba 1) X2;exact q
   have p2ba2:sn2.ba 2=sn1.ba 2:=by have q:=congrArg (fun z:SN=>z.ba 2) X2;exact q
   have p2dep:sn2.dep=sn1.dep:=by have q:=congrArg (fun z:SN=>z.dep) X2;exact q
   have p2sh:sn2.sh=sn1.sh:=by have q:=congrArg (fun z:SN=>z.sh) X2;exact q
   have p2pt:sn2.pt=sn1.pt:=by have q:=congrArg (fun z:SN=>z.pt) X2;exact q
   refine AW.w 1 Tru Tru ?_
   try simp only [Jb3,Ja4,push_cast,simprocAttr,U7,p2li0,p2li1,p2li2,p2no0,p2no1,p2no2,p2po0,p2po1,p2po2,p2ba0,p2ba1,p2ba2,p2dep,p2sh,p2pt]
   exact Weak.same (by simp only [KS,simprocAttr,p2li0,p2li1,p2li2,p2no0,p2no1,p2no2,p2po0,p2po1,p2po2,p2ba0,p2ba1,p2ba2,p2dep,p2sh,p2pt]) (by first|rfl|simp only [KS,simprocAttr,p2li0,p2li1,p2li2,p2no0,p2no1,p2no2,p2po0,p2po1,p2po2,p2ba0,p2ba1,p2ba2,p2dep,p2sh,p2pt])
  try simp only [Jb3,Ja4,push_cast,simprocAttr,U7]
  refine AW.w 1 Tru Tru ?_
  have q_9:=Jx0 k (d+3)
  rw [hkc] at q_9
  have q_10:=Jx0 k (d+4)
  rw [hkc] at q_10
  have q_11:=bnc_c (s.pk jj) (s.pc jj) (s.pr jj) rr.d h.n (k.u (d+3)) (k.u (d+4))
  rw [hT1] at q_11
  unfold tnC c3C at q_11
  refine AW.wd [[.rd 0,.val,.rd 0,.val,.rd 0,.rd 0,.val,.val,.ext,.rd 0,.val,.val,.ext,.ext,.fl,.wr]] 2 U7 (ca3 q_9 q_10 q_11) fun K J2=>?_
  refine AW.q fun K J3=>?_
  cases hg:T.g
  ·have hR8:R9=sn2:=by rw [<-hR9];exact Jq0 hbn (by rw [<-hd9];exact Qr7 hF0 hh hsn1 hsn2 hT h3w hg)
   have hv:snC R9=[.int .i64 (sn2.li 0),.int .i64 (sn2.li 1),.int .i64 (sn2.li 2),.int .i64 (sn2.dep),.int .i64 (sn2.no 0),.int .i64 (sn2.no 1),.int .i64 (sn2.no 2),.int .i64 (sn2.po 0),.int .i64 (sn2.po 1),.int .i64 (sn2.po 2),.int .i64 (sn2.ba 0),.int .i64 (sn2.ba 1),.int .i64 (sn2.ba 2),.int .i64 (sn2.sh),.int .i64 (sn2.pt)]:=by rw [hR8];rfl
   rw [hv] at hQ
   have U8:=ca2 U7 hg
   exact AW.f U8 Tru
  skip
  have U9:=ca2 U7 hg
  refine AW.wd [[.rd 0,.val,.rd 0,.ext,.val,.rw 0,.wr,.val]] 7 U9 (Ki9 wt T.l) fun K J2=>?_
  refine AW.q fun K J3=>?_
  have hk29:bb=0\/(¬bb=0/\Qp2 (Jf6 wt T.l)<=Jb8 (k.u (d+5)))\/(¬bb=0/\¬Qp2 (Jf6 wt T.l)<=Jb8 (k.u (d+5))):=by
    by_cases q1:bb=0
    · exact .inl q1
    by_cases q2:Qp2 (Jf6 wt T.l)<=Jb8 (k.u (d+5))
    · exact .inr (.inl ⟨q1,q2⟩)
    exact .inr (.inr ⟨q1,q2⟩)
  rcases hk29 with hb0|⟨hb0,hl9⟩|⟨hb0,hl9⟩
  ·have e9:¬(0:Int)<(bb:Int):=by omega
   have hNx:bb+1<=s.dp.toNat/\Jx8 (Je8 s f) k (s.dp.toNat - (bb+1)) (bb+1) ⟨sn2,Jf6 wt T.l,T.s,⟨h.p,T.d,sn.pt⟩⟩=R9:=⟨hbn,by rw [<-hR9];exact (Kt2 hbn (by rw [<-hd9];exact Vd7 hF0 hh hsn1 hsn2 hT h3w hg hb0)).symm⟩
   have hmu:s.dp.toNat - (bb+1)<s.dp.toNat - bb:=by omega
   have U10:=ca2 U9 e9
   refine AW.w 8 U10 Tru ?_
   refine ⟨⟨bb+1,⟨sn2,Jf6 wt T.l,T.s,⟨h.p,T.d,sn.pt⟩⟩⟩,hNx,hmu,?_⟩
   try simp only [Jb3,Ja4,push_cast,simprocAttr,U10,hwi,hp2,Int.natCast_add,Int.natCast_one]
   exact Weak.to (extra:=_) (by simp only [KS,simprocAttr,hwi,hp2,Int.natCast_add,Int.natCast_one]) (by first|rfl|(simp only [List.append_assoc,List.cons_append,List.nil_append];rfl)) (by first|rfl|(simp [AV.below,CV.below];done)|(simp [AV.below,CV.below];omega)) (by exact MWf.app (hwf.grow (by simp)) (Ja0 rfl (Ja0 rfl (Ja0 rfl (Ja0 rfl (Ja0 rfl Jb1))))))
  ·have e9:(0:Int)<(bb:Int):=by omega
   have hR8:R9=sn2:=by rw [<-hR9];exact Jq0 hbn (by rw [<-hd9];exact Qs0 hF0 hh hsn1 hsn2 hT h3w hg hb0 hl9)
   have hv:snC R9=[.int .i64 (sn2.li 0),.int .i64 (sn2.li 1),.int .i64 (sn2.li 2),.int .i64 (sn2.dep),.int .i64 (sn2.no 0),.int .i64 (sn2.no 1),.int .i64 (sn2.no 2),.int .i64 (sn2.po 0),.int .i64 (sn2.po 1),.int .i64 (sn2.po 2),.int .i64 (sn2.ba 0),.int .i64 (sn2.ba 1),.int .i64 (sn2.ba 2),.int .i64 (sn2.sh),.int .i64 (sn2.pt)]:=by rw [hR8];rfl
   rw [hv] at hQ
   have U11:=ca2 U9 e9
   refine AW.w 3 U11 Tru ?_
   have q_12:=Jx0 k (d+5)
   rw [hkc] at q_12
   exact AW.fd [[.rd 0,.rd 0,.val,.val,.ext,.ext,.val,.val,.val,.wr,.val]] U11 (ca2 q_12 (Vy0 (Jf6 wt T.l) (k.u (d+5)) _ hl9))
  have e9:(0:Int)<(bb:Int):=by omega
  have hNx:bb+1<=s.dp.toNat/\Jx8 (Je8 s f) k (s.dp.toNat - (bb+1)) (bb+1) ⟨sn2,Jv8 (Jf6 wt T.l) (k.u (d+5)),T.s,⟨h.p,T.d,sn.pt⟩⟩=R9:=⟨hbn,by rw [<-hR9];exact (Kt2 hbn (by rw [<-hd9];exact Vt5 hF0 hh hsn1 hsn2 hT h3w hg hb0 hl9)).symm⟩
  have hmu:s.dp.toNat - (bb+1)<s.dp.toNat - bb:=by omega
  have U12:=ca2 U9 e9
  refine AW.w 3 U12 Tru ?_
  have q_13:=Jx0 k (d+5)
  rw [hkc] at q_13
  refine AW.wd [[.rd 0,.rd 0,.val,.val,.ext,.ext,.val,.val,.val,.wr,.val]] 8 U12 (ca2 q_13 (Vy1 (Jf6 wt T.l) (k.u (d+5)) _ hl9)) ?_
  refine ⟨⟨bb+1,⟨sn2,Jv8 (Jf6 wt T.l) (k.u (d+5)),T.s,⟨h.p,T.d,sn.pt⟩⟩⟩,hNx,hmu,?_⟩
  try simp only [Jb3,Ja4,push_cast,simprocAttr,U12,hwi,hp2,Int.natCast_add,Int.natCast_one]
  exact Weak.to (extra:=_) (by simp only [KS,simprocAttr,hwi,hp2,Int.natCast_add,Int.natCast_one]) (by first|rfl|(simp only [List.append_assoc,List.cons_append,List.nil_append];rfl)) (by first|rfl|(simp [AV.below,CV.below];done)|(simp [AV.below,CV.below];omega)) (by exact MWf.app (hwf.grow (by simp)) (Ja0 rfl (Ja0 rfl (Ja0 rfl (Ja0 rfl (Ja0 rfl Jb1))))))
 have hbn:¬bb<s.dp.toNat:=by have:=of_decide_eq_false h105;omega
 have hbe:bb=s.dp.toNat:=by omega
 have hR8:R9=sn:=by rw [<-hR9];exact Qr0 (by omega)
 have hv:snC R9=[.int .i64 (sn.li 0),.int .i64 (sn.li 1),.int .i64 (sn.li 2),.int .i64 (sn.dep),.int .i64 (sn.no 0),.int .i64 (sn.no 1),.int .i64 (sn.no 2),.int .i64 (sn.po 0),.int .i64 (sn.po 1),.int .i64 (sn.po 2),.int .i64 (sn.ba 0),.int .i64 (sn.ba 1),.int .i64 (sn.ba 2),.int .i64 (sn.sh),.int .i64 (sn.pt)]:=by rw [hR8];rfl
 rw [hv] at hQ
 exact AW.f U1 Tru
structure GdS (s:SC):Prop where
 hd:HdR s
 p:s.np<=32
 pa:∀ i,i<s.np->PaR s i
 t:s.nt<=32
 tr:∀ i,i<s.nt->TrS s i
 j:s.nj<=32
 jo:∀ i,i<s.nj->JoR s i
 x:s.nx<=128
 sh:∀ i,i<s.nx->ShR s i
 le:LeR s
 la:(Jj1 (glB s) s.nx).length<=16
theorem Js2 {s:SC}(h:(Jg1 s).1=0):GdS s/\Jg1 s=(0,0):=by
 have fb:∀ (P:Nat->Prop) [DecidablePred P] (n:Nat),¬fbN (fun i=>decide (P i)) n<n->∀ k,k<n->P k:=fun P _ n q k hk=>by
  have:=Qg7 (f:=fun i=>decide (P i)) n (by have:=Kc7 (fun i=>decide (P i)) n;omega) k hk
  exact of_decide_eq_true this
 have h0:=h
 unfold Jg1 at h
 split at h
 ·exact absurd h (by decide)
 rename_i a1
 split at h
 ·exact absurd h (by decide)
 rename_i a2
 split at h
 ·exact absurd h (by simp)
 rename_i a3
 split at h
 ·exact absurd h (by decide)
 rename_i a4
 split at h
 ·exact absurd h (by simp)
 rename_i a5
 split at h
 ·exact absurd h (by decide)
 rename_i a6
 split at h
 ·exact absurd h (by simp)
 rename_i a7
 split at h
 ·exact absurd h (by decide)
 rename_i a8
 split at h
 ·exact absurd h (by simp)
 rename_i a9
 split at h
 ·exact absurd h (by decide)
 rename_i a10
 split at h
 ·exact absurd h (by simp)
 rename_i a11
 refine ⟨⟨Classical.not_not.1 a1,by omega,fb (PaR s) _ a3,by omega,fb (TrS s) _ a5,by omega,fb (JoR s) _ a7,by omega,fb (ShR s) _ a9,Classical.not_not.1 a10,by omega⟩,?_⟩
 unfold Jg1
 rw [if_neg a1,if_neg a2,if_neg a3,if_neg a4,if_neg a5,if_neg a6,if_neg a7,if_neg a8,if_neg a9,if_neg a10,if_neg a11]
theorem Xf3 {s:SC}{i:Nat}(h:ShR s i):inB (s.xj i) (-1) ((s.nj:Int) - 1)=true/\inB (s.xp i) 0 ((s.np:Int) - 1)=true:=by
 unfold ShR at h
 split at h
 ·exact ⟨h.1,h.2.1⟩
 exact ⟨h.1,h.2.1⟩
theorem Qa0 {s:SC}(h:GdS s):GoS s where
 xp:=fun i hi=>by have:=inB_iff.1 (Xf3 (h.sh i hi)).2;omega
 nx:=h.x
 lm:=by rw [<-Ki4];exact h.la
 w:=inB_iff.1 h.hd.1
 h:=inB_iff.1 h.hd.2.1
 sm:=inB_iff.1 h.hd.2.2.1
 dp:=inB_iff.1 h.hd.2.2.2.1
 fr:=inB_iff.1 h.hd.2.2.2.2.1
 sh:=⟨h.hd.2.2.2.2.2.1,h.hd.2.2.2.2.2.2.1⟩
theorem GdS.xj {s:SC}(h:GdS s):∀ i,i<s.nx->-1<=s.xj i/\s.xj i<(s.nj:Int):=fun i hi=>by have:=inB_iff.1 (Xf3 (h.sh i hi)).1;omega
theorem GdS.ey {s:SC}(h:GdS s):s.ey<(s.nt:Int):=by have:=inB_iff.1 h.le.1;omega
theorem GdS.lk {s:SC}(h:GdS s):s.lk<(s.nt:Int):=by have:=inB_iff.1 h.le.2.1;omega
theorem Qu7 (s:SC)(R:RWs)(f:Int)(m:Ja1)(hR:ScR 140 119 223 148 155 m s R)(hc:¬(Jg1 s).1=0):Ctr Tryz.prog 10 [.agg (scC s R),.one (.int .i64 f)] m (.tup [(false,[.nilp]),(false,[.int .i64 (Jg1 s).1])]) m:=by
 have e1:((Jg1 s).1 !=0)=true:=by simpa using hc
 have U1:=ca4 @Je1 @Jd8 @Je0 (ca2 @Ja6 e1)
 exact Ctr.f Tryz.func10 [.tmp 4,.tmp 5] 47 U1 (Qh6 s R _ (hR.app _))
theorem Qu8 (s:SC)(R:RWs)(f:Int)(m:Ja1)(hR:ScR 140 119 223 148 155 m s R)(hc:(Jg1 s).1=0)(hf:f<0\/s.fr<=f):Ctr Tryz.prog 10 [.agg (scC s R),.one (.int .i64 f)] m (.tup [(false,[.nilp]),(false,[.int .i64 1])]) m:=by
 refine Ctr.en Tryz.func10 [.tmp 4,.tmp 5] 47 fun hwf Q hQ=>?_
 have e1:((Jg1 s).1 !=0)=false:=by rw [hc];rfl
 have U2:=ca4 @Je1 @Jd8 @Je0 (ca2 @Ja6 e1)
 refine AW.w 8 U2 (Qh6 s R _ (hR.app _)) fun K J0=>?_
 refine AW.q fun K J1=>?_
 have hk4:f<0\/(¬f<0/\s.fr<=f):=by omega
 rcases hk4 with e2|⟨e2,e3⟩
 ·skip
  have U3:=ca2 U2 e2
  exact AW.f U3 Tru
 skip
 have U4:=ca3 U2 e2 e3
 exact AW.f U4 Tru
theorem Vv8 (s:SC)(R:RWs)(f:Int)(m:Ja1)(hR:ScR 140 119 223 148 155 m s R)(hc:(Jg1 s).1=0)(h0:0<=f)(h1:f<s.fr)(hn:0<s.nx):Ctr Tryz.prog 10 [.agg (scC s R),.one (.int .i64 f)] m (.tup [(false,[.ptr (m.length+6) 0 0]),(false,[.int .i64 0])]) (m++[⟨.fix,52,0,0,scC s R⟩,⟨.grow,204,0,24,Jb0 s.nx (mvF s f)⟩,⟨.grow,255,0,16,ndL (Jh1 (prM (mvS s f)) s.nx).2⟩,⟨.grow,3,0,1,iC (Jh1 (prM (mvS s f)) s.nx).1⟩,⟨.grow,204,0,24,Jb0 s.nx (mF (mvS s f))⟩,⟨.grow,3,0,1,iC (Jp6 s s.nx)⟩,⟨.fix,135,0,0,scC s R++(.int .i64 f::.sl (m.length+2) 0 0 (Jh1 (prM (mvS s f)) s.nx).2.length::.sl (m.length+3) 0 0 s.nx::.sl (m.length+4) 0 0 s.nx::.sl (m.length+5) 0 0 (Jp6 s s.nx).length::(vwC (Jm7 s (f*65536))++vwC (Jm7 s (f*65536+s.sh))))⟩]):=by
 refine Ctr.en Tryz.func10 [.tmp 4,.tmp 5] 47 fun hwf Q hQ=>?_
 have e1:((Jg1 s).1 !=0)=false:=by rw [hc];rfl
 obtain ⟨hG,_⟩:=Js2 hc
 have hg:=Qa0 hG
 have hfr:=hg.fr
 have hs:=hg.sh
 have hgx:=hG.x
 have hgj:=hG.j
 have hT:=hG.tr
 have hX:=hG.xj
 have hf:0<=f/\f<=1000000:=by omega
 have e2:¬f<0:=by omega
 have e3:¬s.fr<=f:=by omega
 obtain ⟨A,hA⟩:∃ A,Jm7 s (f*65536)=A:=⟨_,rfl⟩
 obtain ⟨B,hB⟩:∃ B,Jm7 s (f*65536+s.sh)=B:=⟨_,rfl⟩
 rw [hA,hB] at hQ
 have U5:=ca4 @Je1 @Jd8 @Je0 (ca4 @Ja6 @Ka3 e1 (ca2 e2 e3))
 refine AW.w 12 U5 (Qh6 s R _ (hR.app _)) ?_
 refine AW.q fun K J0=>?_
 refine AW.draw [.rd 0,.val,.rd 0,.val,.ext,.ext,.rd 0,.ext,.rd 0,.val,.rd 0,.val,.ext,.ext,.rd 0,.val,.rd 0,.val,.ext,.ext,.val,.ext,.val,.val] fol (by decide) (by kernel_rfl) ?_
 simp only [push_cast,simprocAttr,U5]
 refine DCall.by (Qz3 s R f _ (hR.app _) hT hX hf hs (by omega) (by omega)) ?_
 simp only [push_cast,simprocAttr,U5]
 refine DCall.by (Vr9 (mvS s f) (m.length+1) 0 s.nx _ ⟨.grow,24,by rw [Jf1];rfl⟩ hgx hn) ?_
 simp only [push_cast,simprocAttr,U5]
 refine DCall.by ((by have h9:=fun M hR=>Vm7 s R M hR;rw [Ki4,Jz2] at h9;exact h9 _ (hR.app _))) ?_
 simp only [push_cast,simprocAttr,U5]
 refine DCall.z ((by have h:=Qe2 s f;unfold hdC c3C at h;exact h _ hf)) ?_
 simp only [push_cast,simprocAttr,U5]
 refine DCall.z ((by have h9:=fun M hR=>Qc0 s R (f*65536) M hR hT;rw [hA] at h9;exact h9 _ (hR.app _))) ?_
 simp only [push_cast,simprocAttr,U5]
 refine DCall.z ((by have h:=Qs3 s f;unfold hdC c3C at h;exact h _ hf hs)) ?_
 simp only [push_cast,simprocAttr,U5]
 refine DCall.z ((by have h9:=fun M hR=>Qc0 s R (f*65536+s.sh) M hR hT;rw [hB] at h9;exact h9 _ (hR.app _))) ?_
 simp only [push_cast,simprocAttr,U5]
 refine DExt.by (by first|rfl|exact (List.append_nil _).symm|(simp only [List.append_assoc,List.cons_append,List.nil_append];rfl)) ?_
 simp only [push_cast,simprocAttr,U5]
 refine AW.w 2 Tru Tru ?_
 refine hQ _ _ _ ?_
 refine RetP.keep (by first|exact Or.inr rfl|exact Or.inl rfl) ?_
 (simp only [Jd3,Ja9,Jb6,AV.tv,push_cast,simprocAttr])<;>rfl
theorem Vv9 (s:SC)(R:RWs)(f:Int)(m:Ja1)(hR:ScR 140 119 223 148 155 m s R)(hc:(Jg1 s).1=0)(h0:0<=f)(h1:f<s.fr)(hn:s.nx=0):Ctr Tryz.prog 10 [.agg (scC s R),.one (.int .i64 f)] m (.tup [(false,[.ptr (m.length+4) 0 0]),(false,[.int .i64 0])]) (m++[⟨.fix,52,0,0,scC s R⟩,⟨.grow,204,0,24,Jb0 s.nx (mvF s f)⟩,⟨.grow,204,0,24,Jb0 s.nx (mF (mvS s f))⟩,⟨.grow,3,0,1,iC (Jp6 s s.nx)⟩,⟨.fix,135,0,0,scC s R++(.int .i64 f::.nils::.nils::.sl (m.length+2) 0 0 s.nx::.sl (m.length+3) 0 0 (Jp6 s s.nx).length::(vwC (Jm7 s (f*65536))++vwC (Jm7 s (f*65536+s.sh))))⟩]):=by
 refine Ctr.en Tryz.func10 [.tmp 4,.tmp 5] 47 fun hwf Q hQ=>?_
 have e1:((Jg1 s).1 !=0)=false:=by rw [hc];rfl
 obtain ⟨hG,_⟩:=Js2 hc
 have hg:=Qa0 hG
 have hfr:=hg.fr
 have hs:=hg.sh
 have hgx:=hG.x
 have hgj:=hG.j
 have hT:=hG.tr
 have hX:=hG.xj
 have hf:0<=f/\f<=1000000:=by omega
 have e2:¬f<0:=by omega
 have e3:¬s.fr<=f:=by omega
 obtain ⟨A,hA⟩:∃ A,Jm7 s (f*65536)=A:=⟨_,rfl⟩
 obtain ⟨B,hB⟩:∃ B,Jm7 s (f*65536+s.sh)=B:=⟨_,rfl⟩
 rw [hA,hB] at hQ
 have U6:=ca4 @Je1 @Jd8 @Je0 (ca4 @Ja6 @Ka3 e1 (ca2 e2 e3))
 refine AW.w 12 U6 (Qh6 s R _ (hR.app _)) ?_
 refine AW.q fun K J0=>?_
 refine AW.draw [.rd 0,.val,.rd 0,.val,.ext,.ext,.rd 0,.ext,.rd 0,.val,.rd 0,.val,.ext,.ext,.rd 0,.val,.rd 0,.val,.ext,.ext,.val,.ext,.val,.val] fol (by decide) (by kernel_rfl) ?_
 simp only [push_cast,simprocAttr,U6]
 refine DCall.by (Qz3 s R f _ (hR.app _) hT hX hf hs (by omega) (by omega)) ?_
 simp only [push_cast,simprocAttr,U6]
 refine DCall.by (Vd1 (mvS s f) (m.length+1) 0 s.nx _ ⟨.grow,24,by rw [Jf1];rfl⟩ hgx hn) ?_
 simp only [push_cast,simprocAttr,U6]
 refine DCall.by ((by have h9:=fun M hR=>Vm7 s R M hR;rw [Ki4,Jz2] at h9;exact h9 _ (hR.app _))) ?_
 simp only [push_cast,simprocAttr,U6]
 refine DCall.z ((by have h:=Qe2 s f;unfold hdC c3C at h;exact h _ hf)) ?_
 simp only [push_cast,simprocAttr,U6]
 refine DCall.z ((by have h9:=fun M hR=>Qc0 s R (f*65536) M hR hT;rw [hA] at h9;exact h9 _ (hR.app _))) ?_
 simp only [push_cast,simprocAttr,U6]
 refine DCall.z ((by have h:=Qs3 s f;unfold hdC c3C at h;exact h _ hf hs)) ?_
 simp only [push_cast,simprocAttr,U6]
 refine DCall.z ((by have h9:=fun M hR=>Qc0 s R (f*65536+s.sh) M hR hT;rw [hB] at h9;exact h9 _ (hR.app _))) ?_
 simp only [push_cast,simprocAttr,U6]
 refine DExt.by (by first|rfl|exact (List.append_nil _).symm|(simp only [List.append_assoc,List.cons_append,List.nil_append];rfl)) ?_
 simp only [push_cast,simprocAttr,U6]
 refine AW.w 2 Tru Tru ?_
 refine hQ _ _ _ ?_
 refine RetP.keep (by first|exact Or.inr rfl|exact Or.inl rfl) ?_
 (simp only [Jd3,Ja9,Jb6,AV.tv,push_cast,simprocAttr])<;>rfl
theorem Kh1 (s:SC)(R:RWs)(f:Int)(m:Ja1)(hR:ScR 140 119 223 148 155 m s R)(hc:(Jg1 s).1=0)(h0:0<=f)(h1:f<s.fr):∃ (L:Ja1) (p:Nat) (E:SE),Ctr Tryz.prog 10 [.agg (scC s R),.one (.int .i64 f)] m (.tup [(false,[.ptr p 0 0]),(false,[.int .i64 0])]) (m++L)/\SetAt (m++L) p s R f E (Jm7 s (f*65536)) (Jm7 s (f*65536+s.sh))/\(MWf m.length m->MWf (m++L).length (m++L)):=by
 obtain ⟨hG,_⟩:=Js2 hc
 have hg:=Qa0 hG
 have hgx:=hG.x
 by_cases hn:s.nx=0
 ·refine ⟨_,m.length+4,⟨.nils,.nils,m.length+2,0,m.length+3,0,fun _ _ _=>0⟩,Vv9 s R f m hR hc h0 h1 hn,?_,fun hw=>by
   refine MWf.app (hw.grow (by simp)) (Ja0 (hR.bel _ (by simp)) (Ja0 (Jb4 _ (fun _=>rfl) _) (Ja0 (Jb4 _ (fun _=>rfl) _) (Ja0 (Jf4 _ _) (Ja0 ?_ Jb1)))))
   have hb:=hR.bel (m.length+5) (by omega)
   simp only [List.length_append,List.length_cons,List.length_nil]
   rw [List.all_append,hb]
   simp [CV.below,vwC,c3C]⟩
  refine ⟨by rw [Jf1];rfl,hR.app _,⟨.grow,24,by rw [Jf1];rfl⟩,⟨.grow,1,by rw [Jf1];rfl⟩,fun L r near far=>?_,hg⟩
  exact Vj6 r (mvS s f) (m.length+2) 0 s.nx near far _ hn
 have hn':0<s.nx:=by omega
 have hC:=Vv8 s R f m hR hc h0 h1 hn'
 obtain ⟨TF,hTF⟩:=Vz4 (mvS s f) (m.length+2) 0 (m.length+3) 0 (m.length+4) 0 s.nx (m++[⟨.fix,52,0,0,scC s R⟩,⟨.grow,204,0,24,Jb0 s.nx (mvF s f)⟩,⟨.grow,255,0,16,ndL (Jh1 (prM (mvS s f)) s.nx).2⟩,⟨.grow,3,0,1,iC (Jh1 (prM (mvS s f)) s.nx).1⟩,⟨.grow,204,0,24,Jb0 s.nx (mF (mvS s f))⟩,⟨.grow,3,0,1,iC (Jp6 s s.nx)⟩,⟨.fix,135,0,0,scC s R++(.int .i64 f::.sl (m.length+2) 0 0 (Jh1 (prM (mvS s f)) s.nx).2.length::.sl (m.length+3) 0 0 s.nx::.sl (m.length+4) 0 0 s.nx::.sl (m.length+5) 0 0 (Jp6 s s.nx).length::(vwC (Jm7 s (f*65536))++vwC (Jm7 s (f*65536+s.sh))))⟩]) hn' (by omega) ⟨.grow,16,by rw [Jf1];rfl⟩ ⟨.grow,1,by rw [Jf1];rfl⟩ ⟨.grow,24,by rw [Jf1];rfl⟩
 refine ⟨_,m.length+6,⟨.sl (m.length+2) 0 0 (Jh1 (prM (mvS s f)) s.nx).2.length,.sl (m.length+3) 0 0 s.nx,m.length+4,0,m.length+5,0,TF⟩,hC,?_,fun hw=>by
  refine MWf.app (hw.grow (by simp)) (Ja0 (hR.bel _ (by simp)) (Ja0 (Jb4 _ (fun _=>rfl) _) (Ja0 (Jb4 _ (fun _=>rfl) _) (Ja0 (Jf4 _ _) (Ja0 (Jb4 _ (fun _=>rfl) _) (Ja0 (Jf4 _ _) (Ja0 ?_ Jb1)))))))
  have hb:=hR.bel (m.length+7) (by omega)
  simp only [List.length_append,List.length_cons,List.length_nil]
  rw [List.all_append,hb]
  simp [CV.below,vwC,c3C]⟩
 exact ⟨by rw [Jf1];rfl,hR.app _,⟨.grow,24,by rw [Jf1];rfl⟩,⟨.grow,1,by rw [Jf1];rfl⟩,hTF,hg⟩
theorem Qd3 (s:SC)(R:RWs)(f:Int)(m:Ja1)(hR:ScR 140 119 223 148 155 m s R)(hc:(Jg1 s).1=0)(h0:0<=f)(h1:f<s.fr):∃ (L:Ja1) (p:Nat) (E:SE),Ctr Tryz.prog 10 [.agg (scC s R),.one (.int .i64 f)] m (.tup [(false,[.ptr p 0 0]),(false,[.int .i64 0])]) (m++L)/\SetAt (m++L) p s R f E (Jm7 s (f*65536)) (Jm7 s (f*65536+s.sh)):=by
 obtain ⟨L,p,E,h1,h2,_⟩:=Kh1 s R f m hR hc h0 h1
 exact ⟨L,p,E,h1,h2⟩
noncomputable def Qe0 (s:SC)(f:Int)(a b:VW)(x y:Int):Nat->V
 | 0=>(Jh2 s f a b x y 0).li
 | n+1=>Jf9 (Qe0 s f a b x y n) (Jh2 s f a b x y ((n+1:Nat):Int)).li
noncomputable def Xd3 (s:SC)(f:Int)(a b:VW)(x y:Int):SN :=
 ⟨Jt6 (Qe0 s f a b x y (s.sm.toNat - 1)) s.sm,(Jh2 s f a b x y 0).dep,(Jh2 s f a b x y 0).no,(Jh2 s f a b x y 0).po,(Jh2 s f a b x y 0).ba,(Jh2 s f a b x y 0).sh,(Jh2 s f a b x y 0).pt⟩
def snN:SN:=⟨fun _=>0,0,fun _=>0,fun _=>0,fun _=>0,-1,0⟩
theorem Jx7 (x y sm:Int)(m:Ja1):Ctr Tryz.prog 13 [.one .nilp,.one (.int .i64 x),.one (.int .i64 y),.one (.int .i64 sm)] m (.agg (snC snN)) m:=by
 refine Ctr.en Tryz.func13 [.cell 8 61] 232 fun hwf Q hQ=>?_
 have hv:snC snN=[.int .i64 0,.int .i64 0,.int .i64 0,.int .i64 0,.int .i64 0,.int .i64 0,.int .i64 0,.int .i64 0,.int .i64 0,.int .i64 0,.int .i64 0,.int .i64 0,.int .i64 0,.int .i64 (-1),.int .i64 0]:=rfl
 rw [hv] at hQ
 exact AW.f Tru Tru
theorem Kh4 (x y:Int)(m:Ja1):Ctr Tryz.prog 15 [.one .nilp,.one (.int .i64 x),.one (.int .i64 y)] m (.agg (snC snN)) m:=by
 refine Ctr.en Tryz.func15 [.cell 6 61] 47 fun hwf Q hQ=>?_
 have hv:snC snN=[.int .i64 0,.int .i64 0,.int .i64 0,.int .i64 0,.int .i64 0,.int .i64 0,.int .i64 0,.int .i64 0,.int .i64 0,.int .i64 0,.int .i64 0,.int .i64 0,.int .i64 0,.int .i64 (-1),.int .i64 0]:=rfl
 rw [hv] at hQ
 have q_1:=Jx7 x y 0
 rw [hv] at q_1
 exact AW.f Tru q_1
theorem Kb3 (i t:Int)(m:Ja1):Ctr Tryz.prog 22 [.one .nilp,.one (.int .i64 i),.one (.int .i64 t)] m (.agg [.int .i64 0,.int .i64 0,.int .i64 0,.int .i64 0,.int .i64 0,.int .i64 0,.int .i64 0,.int .i64 0,.int .i64 0,.int .i64 0,.int .i64 0,.int .i64 0]) m:=by
 exact Ctr.f Tryz.func22 [.cell 6 84] 34 Tru Tru
theorem Jk3 (s:SC)(R:RWs)(f:Int)(E:SE)(a b:VW)(p:Nat)(x y sm:Int)(m:Ja1)(hS:SetAt m p s R f E a b)(ho:x<0\/s.w<=x\/y<0\/s.h<=y):Ctr Tryz.prog 13 [.one (.ptr p 0 0),.one (.int .i64 x),.one (.int .i64 y),.one (.int .i64 sm)] m (.agg (snC snN)) m:=by
 refine Ctr.en Tryz.func13 [.cell 8 61] 232 fun hwf Q hQ=>?_
 have hps:=hS.hp
 have lps:=Ja8 hps
 have hG:=hS.g
 have hv:snC snN=[.int .i64 0,.int .i64 0,.int .i64 0,.int .i64 0,.int .i64 0,.int .i64 0,.int .i64 0,.int .i64 0,.int .i64 0,.int .i64 0,.int .i64 0,.int .i64 0,.int .i64 0,.int .i64 (-1),.int .i64 0]:=rfl
 rw [hv] at hQ
 have U1:=ca4 hps (Ja3 hps) @Kt8 (ca4 @Je1 @Jd8 @Je0 (ca2 @Ja6 @Ka3))
 refine AW.w 2 U1 Tru fun K J0=>?_
 refine AW.q fun K J1=>?_
 have hk1:x<0\/(¬x<0/\s.w<=x)\/(¬x<0/\¬s.w<=x/\y<0)\/(¬x<0/\¬s.w<=x/\¬y<0/\s.h<=y):=by omega
 rcases hk1 with e1|⟨e1,e2⟩|⟨e1,e2,e3⟩|⟨e1,e2,e3,e4⟩
 ·skip
  have U2:=ca2 U1 e1
  exact AW.f U2 Tru
 ·skip
  have U3:=ca3 U1 e1 e2
  exact AW.f U3 Tru
 ·skip
  have U4:=ca4 U1 e1 e2 e3
  exact AW.f U4 Tru
 skip
 have U5:=ca4 U1 e1 e2 (ca2 e3 e4)
 exact AW.f U5 Tru
theorem Kr0 (s:SC)(R:RWs)(f:Int)(E:SE)(a b:VW)(p:Nat)(m:Ja1)(hS:SetAt m p s R f E a b):Ctr Tryz.prog 24 [.one (.ptr p 0 0)] m (.agg (vwC a)) m:=by
 have hps:=hS.hp
 have lps:=Ja8 hps
 have hG:=hS.g
 have U6:=ca4 hps (Ja3 hps) @Kt8 (ca4 @Je1 @Jd8 @Je0 (ca2 @Ja6 @Ka3))
 exact Ctr.f Tryz.func24 [.cell 2 90] 10 U6 Tru
theorem Ko2 (s:SC)(R:RWs)(f:Int)(E:SE)(a b:VW)(p:Nat)(i t:Int)(m:Ja1)(hS:SetAt m p s R f E a b)(ho:i<0\/(s.nx:Int)<=i):Ctr Tryz.prog 22 [.one (.ptr p 0 0),.one (.int .i64 i),.one (.int .i64 t)] m (.agg [.int .i64 0,.int .i64 0,.int .i64 0,.int .i64 0,.int .i64 0,.int .i64 0,.int .i64 0,.int .i64 0,.int .i64 0,.int .i64 0,.int .i64 0,.int .i64 0]) m:=by
 refine Ctr.en Tryz.func22 [.cell 6 84] 34 fun hwf Q hQ=>?_
 have hps:=hS.hp
 have lps:=Ja8 hps
 have hG:=hS.g
 obtain ⟨kx,ex,hx⟩:=hS.hR.hx
 have lx:=Ja8 hx
 have xl:(Jb0 s.nx (xC s)).length=s.nx*13:=Ja5 (w:=13) (F:=xC s) (fun _=>rfl) _
 have U7:=ca4 hps (Ja3 hps) @Kt8 (ca4 @Je1 @Jd8 @Je0 (ca4 @Ja6 @Ka3 hx (ca2 (Ja3 hx) xl)))
 refine AW.w 2 U7 Tru fun K J0=>?_
 refine AW.q fun K J1=>?_
 have hk1:i<0\/(¬i<0/\(s.nx:Int)<=i):=by omega
 rcases hk1 with e1|⟨e1,e2⟩
 ·skip
  have U8:=ca2 U7 e1
  exact AW.f U8 Tru
 skip
 have U9:=ca3 U7 e1 e2
 exact AW.f U9 Tru
theorem Vf9 (s:SC)(R:RWs)(f:Int)(E:SE)(a b:VW)(p:Nat)(i:Nat)(t:Int)(m:Ja1)(hS:SetAt m p s R f E a b)(hi:i<s.nx):Ctr Tryz.prog 22 [.one (.ptr p 0 0),.one (.int .i64 ((i:Int))),.one (.int .i64 t)] m (.agg (plC (atM (mvS s f i) t))) m:=by
 refine Ctr.en Tryz.func22 [.cell 6 84] 34 fun hwf Q hQ=>?_
 have hps:=hS.hp
 have lps:=Ja8 hps
 have hG:=hS.g
 obtain ⟨kx,ex,hx⟩:=hS.hR.hx
 have lx:=Ja8 hx
 have xl:(Jb0 s.nx (xC s)).length=s.nx*13:=Ja5 (w:=13) (F:=xC s) (fun _=>rfl) _
 obtain ⟨ks,es,hs⟩:=hS.hs
 have ls:=Ja8 hs
 have sc:(Jb0 s.nx (mF (mvS s f))).length=s.nx*24:=Ja5 (w:=24) (F:=mF (mvS s f)) (fun _=>rfl) _
 have e1:¬(i:Int)<0:=by omega
 have e2:¬(s.nx:Int)<=(i:Int):=by omega
 have s1:(0:Int)<=(i:Int):=by omega
 have s2:(i:Int)<(s.nx:Int):=by omega
 have s3:i*24+24<=s.nx*24:=by omega
 have s4:=Jb5 (w:=24) (F:=mF (mvS s f)) (fun _=>rfl) hi
 have s5:mF (mvS s f) i=[.int .i64 (mvS s f i).A.kind,.int .i64 (mvS s f i).A.paint,.int .i64 ((mvS s f i).A.P 0 0),.int .i64 ((mvS s f i).A.P 0 1),.int .i64 ((mvS s f i).A.P 0 2),.int .i64 ((mvS s f i).A.P 1 0),.int .i64 ((mvS s f i).A.P 1 1),.int .i64 ((mvS s f i).A.P 1 2),.int .i64 ((mvS s f i).A.P 2 0),.int .i64 ((mvS s f i).A.P 2 1),.int .i64 ((mvS s f i).A.P 2 2),.int .i64 (mvS s f i).A.r,.int .i64 (mvS s f i).B.kind,.int .i64 (mvS s f i).B.paint,.int .i64 ((mvS s f i).B.P 0 0),.int .i64 ((mvS s f i).B.P 0 1),.int .i64 ((mvS s f i).B.P 0 2),.int .i64 ((mvS s f i).B.P 1 0),.int .i64 ((mvS s f i).B.P 1 1),.int .i64 ((mvS s f i).B.P 1 2),.int .i64 ((mvS s f i).B.P 2 0),.int .i64 ((mvS s f i).B.P 2 1),.int .i64 ((mvS s f i).B.P 2 2),.int .i64 (mvS s f i).B.r]:=rfl
 have U10:=ca4 hps (Ja3 hps) @Kt8 (ca4 @Je1 @Jd8 @Je0 (ca4 @Ja6 @Ka3 hx (ca4 (Ja3 hx) xl hs (ca4 (Ja3 hs) sc e1 (ca4 e2 s1 s2 (ca4 s3 s4 s5 hi))))))
 refine AW.c 1 U10 Tru ?_
 refine AW.q fun K J0=>?_
 refine AW.c 1 U10 Tru ?_
 apply AW.x rfl
 apply AW.z
 apply J0
 refine AW.c 1 U10 (at_c (mvS s f i) t) ?_
 exact AW.ret (hQ _ _ _ (RetP.z hwf Tru))
theorem Vw7 (s:SC)(R:RWs)(f:Int)(E:SE)(a b:VW)(p:Nat)(x y:Int)(m:Ja1)(hS:SetAt m p s R f E a b)(hx0:0<=x)(hx1:x<s.w)(hy0:0<=y)(hy1:y<s.h):Ctr Tryz.prog 15 [.one (.ptr p 0 0),.one (.int .i64 x),.one (.int .i64 y)] m (.agg (snC (Xd3 s f a b x y))) m:=by
 refine Ctr.en Tryz.func15 [.cell 6 61] 47 fun hwf Q hQ=>?_
 have hps:=hS.hp
 have lps:=Ja8 hps
 have hG:=hS.g
 obtain ⟨T0,hT0⟩:∃ T,Jh2 s f a b x y 0=T:=⟨_,rfl⟩
 have hgm:=hG.sm
 obtain ⟨N,hN⟩:∃ N:Nat,N=s.sm.toNat:=⟨_,rfl⟩
 have hNs:s.sm=(N:Int):=by omega
 have hv:snC (Xd3 s f a b x y)=[.int .i64 (Jt6 (Qe0 s f a b x y (N - 1)) s.sm 0),.int .i64 (Jt6 (Qe0 s f a b x y (N - 1)) s.sm 1),.int .i64 (Jt6 (Qe0 s f a b x y (N - 1)) s.sm 2),.int .i64 (T0.dep),.int .i64 (T0.no 0),.int .i64 (T0.no 1),.int .i64 (T0.no 2),.int .i64 (T0.po 0),.int .i64 (T0.po 1),.int .i64 (T0.po 2),.int .i64 (T0.ba 0),.int .i64 (T0.ba 1),.int .i64 (T0.ba 2),.int .i64 (T0.sh),.int .i64 (T0.pt)]:=by unfold Xd3;rw [hT0,<-hN];rfl
 rw [hv] at hQ
 have q_2:=fun M hS=>Kp5 s R f E a b p x y 0 M hS hx0 hx1 hy0 hy1
 rw [hT0,show snC T0=[.int .i64 (T0.li 0),.int .i64 (T0.li 1),.int .i64 (T0.li 2),.int .i64 (T0.dep),.int .i64 (T0.no 0),.int .i64 (T0.no 1),.int .i64 (T0.no 2),.int .i64 (T0.po 0),.int .i64 (T0.po 1),.int .i64 (T0.po 2),.int .i64 (T0.ba 0),.int .i64 (T0.ba 1),.int .i64 (T0.ba 2),.int .i64 (T0.sh),.int .i64 (T0.pt)] from rfl] at q_2
 have U11:=ca4 hps (Ja3 hps) @Kt8 (ca4 @Je1 @Jd8 @Je0 (ca2 @Ja6 @Ka3))
 refine AW.w 11 U11 (q_2 _ (hS.app _)) fun K J0=>?_
 refine AW.loopK [0,1,2,6,7,8] (fun i=>i+1<=N) (fun i=>[(9,.one (.int .i64 ((i:Int)+1)))]) (fun i=>[(m.length+2,⟨.fix,42,0,0,[.int .i64 (Qe0 s f a b x y i 0),.int .i64 (Qe0 s f a b x y i 1),.int .i64 (Qe0 s f a b x y i 2)]⟩)]) (fun i=>N - i) 0 (by omega) ?_ ?_ fun i hi3=>?_
 · first|rfl|(simp only [KS,simprocAttr,Qe0,hT0,Int.natCast_zero,Int.zero_add,Int.natCast_one]<;>repeat' (first|rfl|apply And.intro))
 · (simp only [Ja4,push_cast,simprocAttr,Qe0,hT0])<;>rfl
 try simp only [Jb3,Ja4,push_cast,simprocAttr,U11]
 refine AW.w 2 U11 Tru fun K J1=>?_
 refine AW.cond rfl (fun h26=>?_) (fun h26=>?_)
 ·have hlt:i+1<N:=by have:=of_decide_eq_true h26;omega
  obtain ⟨T1,hT1⟩:∃ T,Jh2 s f a b x y ((i+1:Nat):Int)=T:=⟨_,rfl⟩
  have hT2:Jh2 s f a b x y ((i:Int)+1)=T1:=by rw [<-hT1];congr 1
  have hst:Qe0 s f a b x y (i+1)=Jf9 (Qe0 s f a b x y i) T1.li:=by rw [<-hT1];rfl
  have hwi:IntKind.i64.wrap ((i:Int)+1+1)=(i:Int)+1+1:=wi (by omega)
  have hsc:=Kt6 T1
  refine AW.w 4 Tru Tru fun K J1=>?_
  have q_3:=fun M hS=>Kp5 s R f E a b p x y ((i:Int)+1) M hS hx0 hx1 hy0 hy1
  rw [hT2,hsc] at q_3
  have U12:=ca3 U11 hsc hT2
  refine AW.wd [[.rd 0,.val,.val,.val,.val,.ext,.val,.ext,.wr]] 3 U12 (ca2 (q_3 _ (hS.app _)) (Qf8 (Qe0 s f a b x y i) T1.li)) ?_
  refine ⟨i+1,by omega,by omega,?_⟩
  try simp only [Jb3,Ja4,push_cast,simprocAttr,U12,hwi,hst,Int.natCast_add,Int.natCast_one]
  exact Weak.to (extra:=_) (by simp only [KS,simprocAttr,hwi,hst,Int.natCast_add,Int.natCast_one]) (by first|rfl|(simp only [List.append_assoc,List.cons_append,List.nil_append];rfl)) (by first|rfl|(simp [AV.below,CV.below];done)|(simp [AV.below,CV.below];omega)) (by exact MWf.app (hwf.grow (by simp)) (Ja0 rfl (Ja0 rfl (Ja0 rfl Jb1))))
 have hin:i=N - 1:=by have:=of_decide_eq_false h26;omega
 rw [hin]
 exact AW.fd [[.rd 0,.val,.val,.val,.val,.val,.rd 0,.ext,.val,.wr]] U11 (Vy7 (Qe0 s f a b x y (N - 1)) s.sm)
theorem Ks0 (a:V)(m:Ja1):Ctr Tryz.prog 46 [.agg (c3C a)] m (.agg (c3C a)) m:=by
 exact Ctr.f Tryz.func46 [.cell 2 54] 10 @Ja6 Tru
theorem Xk1 (a:V)(m:Ja1):Ctr Tryz.prog 45 [.agg (c3C a)] m (.agg (c3C a)) m:=by
 exact Ctr.f Tryz.func45 [.cell 2 24] 10 @Ja6 Tru
theorem snC_e (s:SN):snC s=(c3C s.li++(.int .i64 s.dep::(c3C s.no++(c3C s.po++(c3C s.ba++[.int .i64 s.sh,.int .i64 s.pt]))))):=rfl
theorem Vk3 (t:SN)(m:Ja1):Ctr Tryz.prog 12 [.agg (snC t)] m (.agg (snC t)) m:=by
 refine Ctr.en Tryz.func12 [.cell 2 56] 22 fun hwf Q hQ=>?_
 have hv:=Kt6 t
 rw [hv] at hQ
 have U1:=ca2 @snC_e @Ja6
 exact AW.fd [[.val,.rd 0,.ext,.val,.rd 0,.val,.rd 0,.ext,.val,.rd 0,.ext,.val,.rd 0,.ext,.val,.rd 0,.val,.rd 0,.val,.wr]] U1 (ca4 (Xk1 t.li) (Ks0 t.no) (Ks0 t.po) (Xk1 t.ba))
theorem Qn4 (P:PL)(m:Ja1):Ctr Tryz.prog 21 [.agg (plC P)] m (.agg (plC P)) m:=by
 refine Ctr.en Tryz.func21 [.cell 2 75] 23 fun hwf Q hQ=>?_
 have hv:=Jk6 P
 rw [hv] at hQ
 have U2:=ca2 @Jv4 @Ja6
 exact AW.fd [[.val,.rd 0,.val,.rd 0,.val,.val,.rd 0,.ext,.val,.val,.rd 0,.ext,.val,.val,.rd 0,.ext,.val,.val,.rd 0,.val,.wr]] U2 (ca3 (Ks0 (P.P 0)) (Ks0 (P.P 1)) (Ks0 (P.P 2)))
theorem Vz5 (a:VW)(m:Ja1):Ctr Tryz.prog 23 [.agg (vwC a)] m (.agg (vwC a)) m:=by
 refine Ctr.en Tryz.func23 [.cell 2 87] 22 fun hwf Q hQ=>?_
 have hv:=Vo2 a
 rw [hv] at hQ
 have U3:=ca2 @Ka3 @Ja6
 exact AW.fd [[.val,.rd 0,.ext,.val,.rd 0,.ext,.val,.rd 0,.ext,.val,.rd 0,.ext,.val,.rd 0,.val,.rd 0,.val,.rd 0,.val,.wr]] U3 (ca4 (Ks0 a.e) (Ks0 a.f) (Ks0 a.r) (Ks0 a.u))
def SdB (s:SC):Bool:=decide (SmR s)&&((Jg1 s).1 ==0)
structure LtR (s:SC):Prop where
 sm:SmR s
 ck:(Jg1 s).1=0
 px:s.w*s.h<=16
 ns:s.sm<=2
 dp:s.dp<=3
 nx:(s.nx:Int)<=20
 fr:s.fr<=4
theorem Jw4 (s:SC)(R:RWs)(m:Ja1)(hR:ScR 138 143 285 146 150 m s R):Ctr Tryz.prog 32 [.agg (scC s R)] m (.one (.bool (SdB s))) m:=by
 refine Ctr.en Tryz.func32 [.tmp 2] 16 fun hwf Q hQ=>?_
 obtain ⟨zz,hzz⟩:∃ z,SdB s=z:=⟨_,rfl⟩
 rw [hzz] at hQ
 unfold SdB at hzz
 have U4:=ca4 @Je1 @Jd8 @Je0 @Ja6
 refine AW.c 2 U4 (Qd6 s R _ (hR.app _)) ?_
 refine AW.q fun K J0=>?_
 by_cases hs:SmR s
 ·have e1:decide (SmR s)=true:=decide_eq_true hs
  rw [e1,Bool.true_and] at hzz
  have U5:=ca3 U4 e1 hzz
  exact AW.f U5 (Qj9 s R _ (hR.app _))
 have e1:decide (SmR s)=false:=decide_eq_false hs
 rw [e1,Bool.false_and] at hzz
 subst hzz
 have U6:=ca2 U4 e1
 exact AW.f U6 (Qj9 s R _ (hR.app _))
theorem l17_f (s:SC)(R:RWs)(m:Ja1)(hR:ScR 138 143 285 146 150 m s R)(hL:¬LtR s):Ctr Tryz.prog 8 [.agg (scC s R)] m (.one (.bool false)) m:=by
 refine Ctr.en Tryz.func8 [.tmp 2] 39 fun hwf Q hQ=>?_
 have hwh:SdB s=true->IntKind.i64.wrap (s.w*s.h)=s.w*s.h:=fun q=>by
   have q1:(Jg1 s).1=0:=by unfold SdB at q;exact eq_of_beq (Bool.and_eq_true_iff.1 q).2
   have hg:=Qa0 (Js2 q1).1
   have a1:=hg.w
   have a2:=hg.h
   have m1:0<=s.w*s.h:=Int.mul_nonneg (by omega) (by omega)
   have m2:s.w*s.h<=64*64:=Int.mul_le_mul (by omega) (by omega) (by omega) (by omega)
   exact wi (by omega)
 have hk:(¬(SdB s=true))\/(SdB s=true/\¬(s.w*s.h<=16))\/(SdB s=true/\s.w*s.h<=16/\¬(s.sm<=2))\/(SdB s=true/\s.w*s.h<=16/\s.sm<=2/\¬(s.dp<=3))\/(SdB s=true/\s.w*s.h<=16/\s.sm<=2/\s.dp<=3/\¬((s.nx:Int)<=20))\/(SdB s=true/\s.w*s.h<=16/\s.sm<=2/\s.dp<=3/\(s.nx:Int)<=20/\¬(s.fr<=4)):=by
   by_cases q0:SdB s=true
   · have q1:SmR s:=by unfold SdB at q0;exact of_decide_eq_true (Bool.and_eq_true_iff.1 q0).1
     have q2:(Jg1 s).1=0:=by unfold SdB at q0;exact eq_of_beq (Bool.and_eq_true_iff.1 q0).2
     by_cases q3:s.w*s.h<=16
     · by_cases q4:s.sm<=2
       · by_cases q5:s.dp<=3
         · by_cases q6:(s.nx:Int)<=20
           · by_cases q7:s.fr<=4
             · exact (hL ⟨q1,q2,q3,q4,q5,q6,q7⟩).elim
             exact .inr (.inr (.inr (.inr (.inr ⟨q0,q3,q4,q5,q6,q7⟩))))
           exact .inr (.inr (.inr (.inr (.inl ⟨q0,q3,q4,q5,q6⟩))))
         exact .inr (.inr (.inr (.inl ⟨q0,q3,q4,q5⟩)))
       exact .inr (.inr (.inl ⟨q0,q3,q4⟩))
     exact .inr (.inl ⟨q0,q3⟩)
   exact .inl q0
 have U7:=ca4 @Je1 @Jd8 @Je0 @Ja6
 refine AW.c 1 U7 Tru ?_
 refine AW.q fun K J0=>?_
 rcases hk with g0|⟨g0,g1⟩|⟨g0,g1,g2⟩|⟨g0,g1,g2,g3⟩|⟨g0,g1,g2,g3,g4⟩|⟨g0,g1,g2,g3,g4,g5⟩
 ·have e0:SdB s=false:=by simpa using g0
  have U8:=ca2 U7 e0
  exact AW.f U8 (Jw4 s R _ (hR.app _))
 ·have w1:IntKind.i64.wrap (s.w*s.h)=s.w*s.h:=hwh g0
  have U9:=ca4 U7 g0 w1 g1
  exact AW.f U9 (Jw4 s R _ (hR.app _))
 ·have w1:IntKind.i64.wrap (s.w*s.h)=s.w*s.h:=hwh g0
  have U10:=ca4 U7 g0 w1 (ca2 g1 g2)
  exact AW.f U10 (Jw4 s R _ (hR.app _))
 ·have w1:IntKind.i64.wrap (s.w*s.h)=s.w*s.h:=hwh g0
  have U11:=ca4 U7 g0 w1 (ca3 g1 g2 g3)
  exact AW.f U11 (Jw4 s R _ (hR.app _))
 ·have w1:IntKind.i64.wrap (s.w*s.h)=s.w*s.h:=hwh g0
  have U12:=ca4 U7 g0 w1 (ca4 g1 g2 g3 g4)
  exact AW.f U12 (Jw4 s R _ (hR.app _))
 have w1:IntKind.i64.wrap (s.w*s.h)=s.w*s.h:=hwh g0
 have U13:=ca4 U7 g0 w1 (ca4 g1 g2 g3 (ca2 g4 g5))
 exact AW.f U13 (Jw4 s R _ (hR.app _))
theorem l17_t (s:SC)(R:RWs)(m:Ja1)(hR:ScR 138 143 285 146 150 m s R)(hL:LtR s):Ctr Tryz.prog 8 [.agg (scC s R)] m (.one (.bool true)) m:=by
 have hwh:SdB s=true->IntKind.i64.wrap (s.w*s.h)=s.w*s.h:=fun q=>by
   have q1:(Jg1 s).1=0:=by unfold SdB at q;exact eq_of_beq (Bool.and_eq_true_iff.1 q).2
   have hg:=Qa0 (Js2 q1).1
   have a1:=hg.w
   have a2:=hg.h
   have m1:0<=s.w*s.h:=Int.mul_nonneg (by omega) (by omega)
   have m2:s.w*s.h<=64*64:=Int.mul_le_mul (by omega) (by omega) (by omega) (by omega)
   exact wi (by omega)
 have g0:SdB s=true:=by unfold SdB;rw [decide_eq_true hL.sm,hL.ck];rfl
 have w1:=hwh g0
 have g1:=hL.px
 have g2:=hL.ns
 have g3:=hL.dp
 have g4:=hL.nx
 have g5:=hL.fr
 have U14:=ca4 @Je1 @Jd8 @Je0 (ca4 @Ja6 g0 w1 (ca4 g1 g2 g3 (ca2 g4 g5)))
 exact Ctr.f Tryz.func8 [.tmp 2] 39 U14 (Jw4 s R _ (hR.app _))
theorem Vt0 (s:SC)(R:RWs)(m:Ja1):(toB s R m).length=8+3*s.nt:=by
 simp only [toB,List.length_cons,Jj2];omega
theorem Kt3 {m:Ja1}{s:SC}{R:RWs}(hR:ScR 138 143 285 146 150 m s R):ScR 140 119 223 148 155 (m++toB s R m) s (toR s m.length):=by
 have hq:∀ k,(m++toB s R m)[m.length+k]?=(toB s R m)[k]?:=fun k=>by rw [List.getElem?_append_right (by omega)];congr 1;omega
 refine ⟨⟨.grow,5,?_⟩,⟨.grow,2,?_⟩,fun i hi=>⟨.grow,4,?_⟩,⟨.grow,4,?_⟩,⟨.grow,13,?_⟩,hR.np,hR.nt,hR.nj,hR.nx,hR.nk⟩
 ·show (m++toB s R m)[m.length+4]?=_;rw [hq];rfl
 ·show (m++toB s R m)[m.length+5]?=_;rw [hq];rfl
 ·show (m++toB s R m)[m.length+(3*i+9)]?=_
  rw [hq]
  show (tkB s R m.length s.nt)[3*i+1]?=_
  exact Qr3 s R m.length hi
 ·show (m++toB s R m)[m.length+6]?=_;rw [hq];rfl
 show (m++toB s R m)[m.length+7]?=_;rw [hq];rfl
theorem Vt3 (m:Ja1):Ctr Tryz.prog 34 [.agg [.int .i64 0,.int .i64 0,.int .i64 0]] m (.agg [.int .i64 0,.sl m.length 0 0 1]) (m++[⟨.grow,223,0,4,[.int .i64 0,.int .i64 0,.int .i64 0,.int .i64 0]⟩]):=by
 refine Ctr.en Tryz.func34 [.cell 2 119] 7 fun hwf Q hQ=>?_
 have hlt0:∀ k,¬m.length+k<m.length:=fun k=>by omega
 refine AW.w 3 Tru Tru ?_
 refine hQ _ _ _ ?_
 refine RetP.pick [(m.length+2,0)] (by first|exact Or.inr rfl|exact Or.inl rfl) ?_ ?_ ?_ hwf ?_
 · simp only [Jd3,Ja9,Jb6,AV.tv,push_cast,simprocAttr]
   simp [Km6,Kq7,Kb1,Js3,Jh0,hlt0]
 · simp only [Jm9,push_cast,simprocAttr]
 · simp [Jc4]
 exact Qb3 rfl
def bS:SC:=⟨1,1,1,1,1,0,0,fun _=>7,0,0,65536,0,1,0,0,fun _=>0,fun _ _=>0,fun _=>0,fun _=>0,fun _=>1,fun _ _=>0,fun _ _ _=>0,fun _=>0,fun _=>0,fun _=>0,fun _=>0,fun _=>0,fun _=>0,fun _=>0,fun _ _ _=>0,fun _=>0⟩
def bR (L:Nat):RWs:=⟨L+3,0,L+1,0,L+4,0,L+5,0,fun _=>L,fun _=>0⟩
theorem Xo6:(Jg1 bS).1=0:=by decide
theorem Vn3 (f:Int)(a b:VW)(x y sm:Int):(∀ j,(Jh2 bS f a b x y sm).li j=7)/\(Jh2 bS f a b x y sm).sh=-1:=by
 unfold Jh2
 have h:=@Jq0 (Je8 bS f) (Qm8 bS f x y sm) 0 ⟨Qs7 ((Qm8 bS f x y sm).u 2),fun _=>65536,true,Xd2 (Xi0 a b ((Qm8 bS f x y sm).u 2)) x y ((Qm8 bS f x y sm).u 0) ((Qm8 bS f x y sm).u 1) ((Qm8 bS f x y sm).u 2)⟩ 1 _ (by decide) (Kt5 rfl)
 rw [show bS.dp.toNat=1 - 0 from rfl,h]
 refine ⟨fun j=>?_,rfl⟩
 show Jd0 0 (Jd2 65536 7)=7
 decide
theorem Xo5 (f:Int)(a b:VW)(x y:Int):(∀ j,(Xd3 bS f a b x y).li j=7)/\(Xd3 bS f a b x y).sh=-1:=by
 obtain ⟨h1,h2⟩:=Vn3 f a b x y 0
 refine ⟨fun j=>?_,h2⟩
 show (if (1:Int)<1 then (0:Int) else Jg9 ((Jh2 bS f a b x y 0).li j) (ofI 1))=7
 rw [h1];decide
theorem Xo4 {m:Ja1}(a:Blk)(L:Ja1):ScR 140 119 223 148 155 (m++(⟨.grow,223,0,4,[.int .i64 0,.int .i64 0,.int .i64 0,.int .i64 0]⟩::⟨.grow,119,0,2,[.int .i64 0,.sl m.length 0 0 1]⟩::a::⟨.grow,140,0,5,[]⟩::⟨.grow,148,0,4,[]⟩::⟨.grow,155,0,13,[]⟩::L)) bS (bR m.length):=by
 refine ⟨⟨.grow,5,?_⟩,⟨.grow,2,?_⟩,fun i hi=>⟨.grow,4,?_⟩,⟨.grow,4,?_⟩,⟨.grow,13,?_⟩,by decide,by decide,by decide,by decide,fun _ _=>(by show (1:Nat)<=1000000000000;decide)⟩
 ·show (m++_)[m.length+3]?=_;rw [Jf1];rfl
 ·show (m++_)[m.length+1]?=_;rw [Jf1];rfl
 ·show (m++_)[m.length]?=_;rw [Jj9];rfl
 ·show (m++_)[m.length+4]?=_;rw [Jf1];rfl
 show (m++_)[m.length+5]?=_;rw [Jf1];rfl
theorem Ji1 (m:Ja1):Ctr Tryz.prog 9 [] m (.one (.bool true)) m:=by
 refine Ctr.en Tryz.func9 [.tmp 0] 32 fun hwf Q hQ=>?_
 obtain ⟨L9,p,E,hC,hS⟩:=Qd3 bS (bR m.length) 0 (m++(⟨.grow,223,0,4,[.int .i64 0,.int .i64 0,.int .i64 0,.int .i64 0]⟩::⟨.grow,119,0,2,[.int .i64 0,.sl m.length 0 0 1]⟩::(⟨.fix,52,0,0,scC bS (bR m.length)⟩:Blk)::⟨.grow,140,0,5,[]⟩::⟨.grow,148,0,4,[]⟩::⟨.grow,155,0,13,[]⟩::[])) (Xo4 (m:=m) (⟨.fix,52,0,0,scC bS (bR m.length)⟩:Blk) []) Xo6 (by decide) (by decide)
 obtain ⟨A,hA⟩:∃ A,Jm7 bS (0*65536)=A:=⟨_,rfl⟩
 obtain ⟨B,hB⟩:∃ B,Jm7 bS (0*65536+bS.sh)=B:=⟨_,rfl⟩
 rw [hA,hB] at hS
 obtain ⟨h1,h2⟩:=Xo5 0 A B 0 0
 obtain ⟨X,hX⟩:∃ X,Xd3 bS 0 A B 0 0=X:=⟨_,rfl⟩
 rw [hX] at h1 h2
 have hXc:=Kt6 X
 rw [h1,h1,h1,h2] at hXc
 refine AW.c 2 @Ja6 (ca2 (Kr7 7) Vt3) ?_
 refine AW.nilCell 140 5 (m.length+2) 13 (by simp only [push_cast,simprocAttr];first|done|rfl) (by intro e;cases e) rfl ?_
 try simp only [push_cast,simprocAttr]
 refine AW.nilCell 148 4 (m.length+2) 15 (by simp only [push_cast,simprocAttr];first|done|rfl) (by intro e;cases e) rfl ?_
 try simp only [push_cast,simprocAttr]
 refine AW.nilCell 155 13 (m.length+2) 16 (by simp only [push_cast,simprocAttr];first|done|rfl) (by intro e;cases e) rfl ?_
 try simp only [push_cast,simprocAttr]
 have q_1:=Vw7 bS (bR m.length) 0 E A B p 0 0 _ hS (by decide) (by decide) (by decide) (by decide)
 rw [hX,hXc] at q_1
 simp only [List.append_assoc,List.cons_append,List.nil_append] at q_1
 exact AW.fd [[.val,.val,.val,.val,.rd 0,.ext,.val,.val,.val,.val,.rd 1,.val,.val,.val]] @Ja6 (ca3 hC q_1 (Kr7 7))
theorem Qk5 (s:SC)(R:RWs)(fm sh t x y:Int)(m:Ja1)(hR:ScR 138 143 285 146 150 m s R)(hS:¬SmR s):Ctr Tryz.prog 6 [.agg (scC s R),.one (.int .i64 fm),.one (.int .i64 sh),.one (.int .i64 t),.one (.int .i64 x),.one (.int .i64 y)] m (.one (.bool true)) m:=by
 have e1:decide (SmR s)=false:=decide_eq_false hS
 have U1:=ca4 @Je1 @Jd8 @Je0 (ca2 @Ja6 e1)
 exact Ctr.f Tryz.func6 [.tmp 12] 168 U1 (ca2 (Qj9 s R _ (hR.app _)) Ji1)
theorem Qk4 (s:SC)(R:RWs)(fm sh t x y:Int)(m:Ja1)(hR:ScR 138 143 285 146 150 m s R)(hS:SmR s)(hc:¬(Jg1 s).1=0):Ctr Tryz.prog 6 [.agg (scC s R),.one (.int .i64 fm),.one (.int .i64 sh),.one (.int .i64 t),.one (.int .i64 x),.one (.int .i64 y)] m (.one (.bool true)) m:=by
 refine Ctr.en Tryz.func6 [.tmp 12] 168 fun hwf Q hQ=>?_
 have e1:decide (SmR s)=true:=decide_eq_true hS
 have e2:((Jg1 s).1 !=0)=true:=by simpa using hc
 have bq:∀ z:Int,(z ==z)=true:=fun z=>beq_self_eq_true z
 have U2:=ca4 @Je1 @Jd8 @Je0 (ca4 @Ja6 e1 e2 bq)
 refine AW.w 7 U2 (ca2 (Qj9 s R _ (hR.app _)) (Qd6 s R _ (hR.app _))) ?_
 refine AW.anyMemG (fun m1=>(∃ L,m1=m++(⟨.fix,32,0,0,scC s R⟩::L))/\MWf m1.length m1) ⟨⟨[],by (try simp only [scC,hdC,tlC,c3C]);rfl⟩,MWf.app (hwf.grow (by simp)) (Ja0 (hR.bel _ (by simp)) Jb1)⟩ fun m1 hm1=>?_
 obtain ⟨⟨L1,hm1⟩,hwf1⟩:=hm1
 have hR1:ScR 138 143 285 146 150 m1 s R:=by rw [hm1];exact hR.app _
 have hb1:m1[m.length]?=some ⟨.fix,32,0,0,scC s R⟩:=by rw [hm1,Jj9];rfl
 have ll1:=Ja8 hb1
 obtain ⟨m2,hm2⟩:∃ z,m1++toB s R m1=z:=⟨_,rfl⟩
 have hto:=Xe1 s R m1 hR1 hS
 rw [hm2] at hto
 have hP2:=Kt3 hR1
 rw [hm2] at hP2
 obtain ⟨R2,hR2⟩:∃ z,toR s m1.length=z:=⟨_,rfl⟩
 rw [hR2] at hto hP2
 have hb2:m2[m.length]?=some ⟨.fix,32,0,0,scC s R⟩:=by rw [<-hm2];exact Ja3 hb1 _
 have ll2:=Ja8 hb2
 have hmx:∃ X,m2=m++X:=⟨_,by rw [<-hm2,hm1,List.append_assoc]⟩
 have U3:=ca3 U2 hb1 (Ja3 hb1)
 refine AW.w 7 U3 (ca3 hto (Qu7 s R2 fm m2 hP2 hc) Ji1) fun K J0=>?_
 refine hQ _ _ _ ?_
 obtain ⟨X9,hX9⟩:=hmx
 rw [hX9]
 refine RetP.drop (by first|exact Or.inr rfl|exact Or.inl rfl) ?_ ?_ hwf
 · (simp only [Jd3,Ja9,Jb6,AV.tv,push_cast,simprocAttr])<;>rfl
 rfl
theorem Qk3 (s:SC)(R:RWs)(fm sh t x y:Int)(m:Ja1)(hR:ScR 138 143 285 146 150 m s R)(hS:SmR s)(hc:(Jg1 s).1=0)(hf:fm<0\/s.fr<=fm):Ctr Tryz.prog 6 [.agg (scC s R),.one (.int .i64 fm),.one (.int .i64 sh),.one (.int .i64 t),.one (.int .i64 x),.one (.int .i64 y)] m (.one (.bool true)) m:=by
 refine Ctr.en Tryz.func6 [.tmp 12] 168 fun hwf Q hQ=>?_
 have e1:decide (SmR s)=true:=decide_eq_true hS
 have e2:((Jg1 s).1 !=0)=false:=by rw [hc];rfl
 have U4:=ca4 @Je1 @Jd8 @Je0 (ca3 @Ja6 e1 e2)
 refine AW.w 7 U4 (ca2 (Qj9 s R _ (hR.app _)) (Qd6 s R _ (hR.app _))) ?_
 refine AW.anyMemG (fun m1=>(∃ L,m1=m++(⟨.fix,32,0,0,scC s R⟩::L))/\MWf m1.length m1) ⟨⟨[],by (try simp only [scC,hdC,tlC,c3C]);rfl⟩,MWf.app (hwf.grow (by simp)) (Ja0 (hR.bel _ (by simp)) Jb1)⟩ fun m1 hm1=>?_
 obtain ⟨⟨L1,hm1⟩,hwf1⟩:=hm1
 have hR1:ScR 138 143 285 146 150 m1 s R:=by rw [hm1];exact hR.app _
 have hb1:m1[m.length]?=some ⟨.fix,32,0,0,scC s R⟩:=by rw [hm1,Jj9];rfl
 have ll1:=Ja8 hb1
 obtain ⟨m2,hm2⟩:∃ z,m1++toB s R m1=z:=⟨_,rfl⟩
 have hto:=Xe1 s R m1 hR1 hS
 rw [hm2] at hto
 have hP2:=Kt3 hR1
 rw [hm2] at hP2
 obtain ⟨R2,hR2⟩:∃ z,toR s m1.length=z:=⟨_,rfl⟩
 rw [hR2] at hto hP2
 have hb2:m2[m.length]?=some ⟨.fix,32,0,0,scC s R⟩:=by rw [<-hm2];exact Ja3 hb1 _
 have ll2:=Ja8 hb2
 have hmx:∃ X,m2=m++X:=⟨_,by rw [<-hm2,hm1,List.append_assoc]⟩
 have U5:=ca3 U4 hb1 (Ja3 hb1)
 refine AW.w 5 U5 (ca2 hto (Qu8 s R2 fm m2 hP2 hc hf)) fun K J0=>?_
 refine AW.q fun K J1=>?_
 have hk7:fm<0\/(¬fm<0/\s.fr<=fm):=by omega
 rcases hk7 with g1|⟨g1,g2⟩
 ·skip
  have U6:=ca4 U5 g1 hb2 (Ja3 hb2)
  refine AW.w 5 U6 Ji1 ?_
  refine hQ _ _ _ ?_
  obtain ⟨X9,hX9⟩:=hmx
  rw [hX9]
  refine RetP.drop (by first|exact Or.inr rfl|exact Or.inl rfl) ?_ ?_ hwf
  · (simp only [Jd3,Ja9,Jb6,AV.tv,push_cast,simprocAttr])<;>rfl
  rfl
 skip
 have U7:=ca4 U5 g1 g2 (ca2 hb2 (Ja3 hb2))
 refine AW.w 5 U7 Ji1 ?_
 refine hQ _ _ _ ?_
 obtain ⟨X9,hX9⟩:=hmx
 rw [hX9]
 refine RetP.drop (by first|exact Or.inr rfl|exact Or.inl rfl) ?_ ?_ hwf
 · (simp only [Jd3,Ja9,Jb6,AV.tv,push_cast,simprocAttr])<;>rfl
 rfl
theorem Qk2 (s:SC)(R:RWs)(fm sh t x y:Int)(m:Ja1)(hR:ScR 138 143 285 146 150 m s R)(hS:SmR s)(hc:(Jg1 s).1=0)(f0:0<=fm)(f1:fm<s.fr):Ctr Tryz.prog 6 [.agg (scC s R),.one (.int .i64 fm),.one (.int .i64 sh),.one (.int .i64 t),.one (.int .i64 x),.one (.int .i64 y)] m (.one (.bool true)) m:=by
 refine Ctr.en Tryz.func6 [.tmp 12] 168 fun hwf Q hQ=>?_
 have e1:decide (SmR s)=true:=decide_eq_true hS
 have e2:((Jg1 s).1 !=0)=false:=by rw [hc];rfl
 have e3:¬fm<0:=by omega
 have e4:¬s.fr<=fm:=by omega
 have hnv:snC snN=[.int .i64 0,.int .i64 0,.int .i64 0,.int .i64 0,.int .i64 0,.int .i64 0,.int .i64 0,.int .i64 0,.int .i64 0,.int .i64 0,.int .i64 0,.int .i64 0,.int .i64 0,.int .i64 (-1),.int .i64 0]:=rfl
 have hpz:plC (⟨0,0,fun _ _=>0,0⟩:PL)=[.int .i64 0,.int .i64 0,.int .i64 0,.int .i64 0,.int .i64 0,.int .i64 0,.int .i64 0,.int .i64 0,.int .i64 0,.int .i64 0,.int .i64 0,.int .i64 0]:=rfl
 obtain ⟨hG,hC0⟩:=Js2 hc
 have hg:=Qa0 hG
 have hgw:=hg.w
 have hgh:=hg.h
 have hgf:=hg.fr
 have hgx:=hG.x
 have hsh:=hg.sh
 have hT:=hG.tr
 have hJ:=hG.jo
 have hX:=hG.xj
 have hE:=hG.ey
 have hLK:=hG.lk
 have bq:∀ z:Int,(z ==z)=true:=fun z=>beq_self_eq_true z
 have w1:IntKind.i64.wrap (fm*65536)=fm*65536:=wi (by omega)
 have U8:=ca4 @Je1 @Jd8 @Je0 (ca4 @Ja6 e1 e2 (ca4 e3 e4 w1 bq))
 refine AW.w 7 U8 (ca2 (Qj9 s R _ (hR.app _)) (Qd6 s R _ (hR.app _))) ?_
 refine AW.anyMemG (fun m1=>(∃ L,m1=m++(⟨.fix,32,0,0,scC s R⟩::L))/\MWf m1.length m1) ⟨⟨[],by (try simp only [scC,hdC,tlC,c3C]);rfl⟩,MWf.app (hwf.grow (by simp)) (Ja0 (hR.bel _ (by simp)) Jb1)⟩ fun m1 hm1=>?_
 obtain ⟨⟨L1,hm1⟩,hwf1⟩:=hm1
 have hR1:ScR 138 143 285 146 150 m1 s R:=by rw [hm1];exact hR.app _
 have hb1:m1[m.length]?=some ⟨.fix,32,0,0,scC s R⟩:=by rw [hm1,Jj9];rfl
 have ll1:=Ja8 hb1
 obtain ⟨m2,hm2⟩:∃ z,m1++toB s R m1=z:=⟨_,rfl⟩
 have hto:=Xe1 s R m1 hR1 hS
 rw [hm2] at hto
 have hP2:=Kt3 hR1
 rw [hm2] at hP2
 obtain ⟨R2,hR2⟩:∃ z,toR s m1.length=z:=⟨_,rfl⟩
 rw [hR2] at hto hP2
 obtain ⟨L9,p,E,hrd,hSt⟩:=Qd3 s R2 fm m2 hP2 hc f0 f1
 obtain ⟨a,ha⟩:∃ a,Jm7 s (fm*65536)=a:=⟨_,rfl⟩
 obtain ⟨b,hb⟩:∃ b,Jm7 s (fm*65536+s.sh)=b:=⟨_,rfl⟩
 rw [ha,hb] at hSt
 have hb2:(m2++L9)[m.length]?=some ⟨.fix,32,0,0,scC s R⟩:=by rw [<-hm2,List.append_assoc];exact Ja3 hb1 _
 have hR3:ScR 138 143 285 146 150 (m2++L9) s R:=by rw [<-hm2];exact (hR1.app _).app _
 obtain ⟨m3,hm3⟩:∃ z,m2++L9=z:=⟨_,rfl⟩
 rw [hm3] at hb2 hR3 hSt hrd
 have hmx:∃ X,m3=m++X:=⟨_,by rw [<-hm3,<-hm2,hm1,List.append_assoc,List.append_assoc]⟩
 obtain ⟨kx,ex,hx⟩:=hR3.hx
 have lx:=Ja8 hx
 have xl:(Jb0 s.nx (xC s)).length=s.nx*13:=Ja5 (w:=13) (F:=xC s) (fun _=>rfl) _
 have ll3:=Ja8 hb2
 have U9:=ca3 U8 hb1 (Ja3 hb1)
 refine AW.w 5 U9 (ca2 hto hrd) fun K J0=>?_
 have U10:=ca4 U9 hb2 (Ja3 hb2) (ca3 hx (Ja3 hx) xl)
 refine AW.w 7 U10 Tru fun K J0=>?_
 refine AW.q fun K J1=>?_
 refine AW.viaJ [1,2,3,4,5,6,15] [(106,.one (.bool false))] [] ?_ ?_
 ·have hk11:x<0\/(¬x<0/\s.w<=x)\/(¬x<0/\¬s.w<=x/\y<0)\/(¬x<0/\¬s.w<=x/\¬y<0/\s.h<=y)\/(¬x<0/\¬s.w<=x/\¬y<0/\¬s.h<=y):=by omega
  rcases hk11 with g1|⟨g1,g2⟩|⟨g1,g2,g3⟩|⟨g1,g2,g3,g4⟩|⟨g1,g2,g3,g4⟩
  ·skip
   have q_1:=fun M hS=>Jk3 s R2 fm E a b p x y 0 M hS (.inl g1)
   rw [hnv] at q_1
   have q_2:=Vk3 snN
   rw [hnv] at q_2
   have q_3:=fun M hS=>Jk3 s R2 fm E a b p x y 0 M hS (.inl g1)
   rw [hnv] at q_3
   have U11:=ca2 U10 g1
   refine AW.w 1 U11 (ca3 (q_1 _ hSt) q_2 (q_3 _ hSt)) ?_
   try simp only [Jb3,Ja4,push_cast,simprocAttr,U11,bq]
   exact Weak.same (by simp only [KS,simprocAttr,bq]) (by first|rfl|simp only [KS,simprocAttr,bq])
  ·skip
   have q_4:=fun M hS=>Jk3 s R2 fm E a b p x y 0 M hS (.inr (.inl g2))
   rw [hnv] at q_4
   have q_5:=Vk3 snN
   rw [hnv] at q_5
   have q_6:=fun M hS=>Jk3 s R2 fm E a b p x y 0 M hS (.inr (.inl g2))
   rw [hnv] at q_6
   have U12:=ca3 U10 g1 g2
   refine AW.w 1 U12 (ca3 (q_4 _ hSt) q_5 (q_6 _ hSt)) ?_
   try simp only [Jb3,Ja4,push_cast,simprocAttr,U12,bq]
   exact Weak.same (by simp only [KS,simprocAttr,bq]) (by first|rfl|simp only [KS,simprocAttr,bq])
  ·skip
   have q_7:=fun M hS=>Jk3 s R2 fm E a b p x y 0 M hS (.inr (.inr (.inl g3)))
   rw [hnv] at q_7
   have q_8:=Vk3 snN
   rw [hnv] at q_8
   have q_9:=fun M hS=>Jk3 s R2 fm E a b p x y 0 M hS (.inr (.inr (.inl g3)))
   rw [hnv] at q_9
   have U13:=ca4 U10 g1 g2 g3
   refine AW.w 1 U13 (ca3 (q_7 _ hSt) q_8 (q_9 _ hSt)) ?_
   try simp only [Jb3,Ja4,push_cast,simprocAttr,U13,bq]
   exact Weak.same (by simp only [KS,simprocAttr,bq]) (by first|rfl|simp only [KS,simprocAttr,bq])
  ·skip
   have q_10:=fun M hS=>Jk3 s R2 fm E a b p x y 0 M hS (.inr (.inr (.inr g4)))
   rw [hnv] at q_10
   have q_11:=Vk3 snN
   rw [hnv] at q_11
   have q_12:=fun M hS=>Jk3 s R2 fm E a b p x y 0 M hS (.inr (.inr (.inr g4)))
   rw [hnv] at q_12
   have U14:=ca4 U10 g1 g2 (ca2 g3 g4)
   refine AW.w 1 U14 (ca3 (q_10 _ hSt) q_11 (q_12 _ hSt)) ?_
   try simp only [Jb3,Ja4,push_cast,simprocAttr,U14,bq]
   exact Weak.same (by simp only [KS,simprocAttr,bq]) (by first|rfl|simp only [KS,simprocAttr,bq])
  skip
  have U15:=ca4 U10 g1 g2 (ca2 g3 g4)
  refine AW.w 1 U15 Tru ?_
  try simp only [Jb3,Ja4,push_cast,simprocAttr,U15,bq]
  exact Weak.same (by simp only [KS,simprocAttr,bq]) (by first|rfl|simp only [KS,simprocAttr,bq])
 try simp only [Jb3,Ja4,push_cast,simprocAttr,U10]
 refine AW.w 4 Tru Tru ?_
 have hac:=Vo2 a
 refine AW.w 2 U10 Tru fun K J0=>?_
 refine AW.q fun K J1=>?_
 have hk14:sh<0\/(¬sh<0/\(s.nx:Int)<=sh)\/∃ i:Nat,sh=(i:Int)/\i<s.nx:=by
   by_cases q1:sh<0
   · exact .inl q1
   by_cases q2:(s.nx:Int)<=sh
   · exact .inr (.inl ⟨q1,q2⟩)
   exact .inr (.inr ⟨sh.toNat,by omega,by omega⟩)
 rcases hk14 with g1|⟨g1,g2⟩|⟨i,rfl,hi⟩
 ·have z1:¬0<=sh:=by omega
  have U16:=ca2 U10 z1
  refine AW.w 6 U16 Tru ?_
  have q_13:=Qn4 (⟨0,0,fun _ _=>0,0⟩:PL)
  rw [hpz] at q_13
  have q_14:=fun M hS=>Kr0 s R2 fm E a b p M hS
  rw [hac] at q_14
  have q_15:=Vz5 a
  rw [hac] at q_15
  have q_16:=fun M hR=>Ky9 s R (fm*65536) M hR hT hE hLK
  rw [ha,hac] at q_16
  have q_17:=Kh4 x y
  rw [hnv] at q_17
  have q_18:=Jx7 x y 1
  rw [hnv] at q_18
  have q_19:=Qn4 (⟨0,0,fun _ _=>0,0⟩:PL)
  rw [hpz] at q_19
  refine AW.wd [[.ext,.val,.val,.val,.val,.ext,.ext,.rd 1,.val,.val,.val,.val,.ext,.ext,.rd 3,.val,.val,.ext,.val,.val,.val,.val,.val,.val,.ext,.val,.val,.val,.val,.val,.val,.val,.ext,.val,.val,.val,.val,.val,.ext,.ext,.val,.val,.val,.val]] 2 U16 (ca4 Ji1 (Ko2 s R2 fm E a b p sh t _ (hSt.app _) (.inl g1)) q_13 (ca4 (q_14 _ (hSt.app _)) q_15 (q_16 _ (hR3.app _)) (ca4 q_17 q_18 (Kb3 0 0) q_19))) ?_
  refine hQ _ _ _ ?_
  obtain ⟨X9,hX9⟩:=hmx
  simp only [hX9,List.append_assoc]
  refine RetP.drop (by first|exact Or.inr rfl|exact Or.inl rfl) ?_ ?_ hwf
  · (simp only [Jd3,Ja9,Jb6,AV.tv,push_cast,simprocAttr])<;>rfl
  rfl
 ·have z1:0<=sh:=by omega
  have z2:¬sh<(s.nx:Int):=by omega
  have U17:=ca3 U10 z1 z2
  refine AW.w 6 U17 Tru ?_
  have q_20:=Qn4 (⟨0,0,fun _ _=>0,0⟩:PL)
  rw [hpz] at q_20
  have q_21:=fun M hS=>Kr0 s R2 fm E a b p M hS
  rw [hac] at q_21
  have q_22:=Vz5 a
  rw [hac] at q_22
  have q_23:=fun M hR=>Ky9 s R (fm*65536) M hR hT hE hLK
  rw [ha,hac] at q_23
  have q_24:=Kh4 x y
  rw [hnv] at q_24
  have q_25:=Jx7 x y 1
  rw [hnv] at q_25
  have q_26:=Qn4 (⟨0,0,fun _ _=>0,0⟩:PL)
  rw [hpz] at q_26
  refine AW.wd [[.ext,.val,.val,.val,.val,.ext,.ext,.rd 1,.val,.val,.val,.val,.ext,.ext,.rd 3,.val,.val,.ext,.val,.val,.val,.val,.val,.val,.ext,.val,.val,.val,.val,.val,.val,.val,.ext,.val,.val,.val,.val,.val,.ext,.ext,.val,.val,.val,.val]] 2 U17 (ca4 Ji1 (Ko2 s R2 fm E a b p sh t _ (hSt.app _) (.inr g2)) q_20 (ca4 (q_21 _ (hSt.app _)) q_22 (q_23 _ (hR3.app _)) (ca4 q_24 q_25 (Kb3 0 0) q_26))) ?_
  refine hQ _ _ _ ?_
  obtain ⟨X9,hX9⟩:=hmx
  simp only [hX9,List.append_assoc]
  refine RetP.drop (by first|exact Or.inr rfl|exact Or.inl rfl) ?_ ?_ hwf
  · (simp only [Jd3,Ja9,Jb6,AV.tv,push_cast,simprocAttr])<;>rfl
  rfl
 obtain ⟨P9,hP9⟩:∃ P,atM (mvS s fm i) t=P:=⟨_,rfl⟩
 have hPc:=Jk6 P9
 have sc:(Jb0 s.nx (mvF s fm)).length=s.nx*24:=Ja5 (w:=24) (F:=mvF s fm) (fun _=>rfl) _
 have s0:(0:Int)<=(i:Int):=by omega
 have s2:(i:Int)<(s.nx:Int):=by omega
 have s3:i*24+24<=s.nx*24:=by omega
 have s4:=Jb5 (w:=24) (F:=mvF s fm) (fun _=>rfl) hi
 have s5:mvF s fm i=[.int .i64 (mvS s fm i).A.kind,.int .i64 (mvS s fm i).A.paint,.int .i64 ((mvS s fm i).A.P 0 0),.int .i64 ((mvS s fm i).A.P 0 1),.int .i64 ((mvS s fm i).A.P 0 2),.int .i64 ((mvS s fm i).A.P 1 0),.int .i64 ((mvS s fm i).A.P 1 1),.int .i64 ((mvS s fm i).A.P 1 2),.int .i64 ((mvS s fm i).A.P 2 0),.int .i64 ((mvS s fm i).A.P 2 1),.int .i64 ((mvS s fm i).A.P 2 2),.int .i64 (mvS s fm i).A.r,.int .i64 (mvS s fm i).B.kind,.int .i64 (mvS s fm i).B.paint,.int .i64 ((mvS s fm i).B.P 0 0),.int .i64 ((mvS s fm i).B.P 0 1),.int .i64 ((mvS s fm i).B.P 0 2),.int .i64 ((mvS s fm i).B.P 1 0),.int .i64 ((mvS s fm i).B.P 1 1),.int .i64 ((mvS s fm i).B.P 1 2),.int .i64 ((mvS s fm i).B.P 2 0),.int .i64 ((mvS s fm i).B.P 2 1),.int .i64 ((mvS s fm i).B.P 2 2),.int .i64 (mvS s fm i).B.r]:=rfl
 have U18:=ca4 U10 s0 s2 (ca4 s3 s4 s5 (ca2 sc hi))
 refine AW.w 3 U18 Tru ?_
 have q_27:=Xg5 (mvS s fm i) t
 rw [hP9,hPc] at q_27
 refine AW.w 3 U18 (ca2 (Vf8 s R fm _ (hR3.app _) hT hJ hX ⟨f0,by omega⟩ hsh (by omega)) q_27) ?_
 have q_28:=fun M hS=>Vf9 s R2 fm E a b p i t M hS hi
 rw [hP9,hPc] at q_28
 have q_29:=Qn4 P9
 rw [hPc] at q_29
 have q_30:=fun M hS=>Kr0 s R2 fm E a b p M hS
 rw [hac] at q_30
 have q_31:=Vz5 a
 rw [hac] at q_31
 have q_32:=fun M hR=>Ky9 s R (fm*65536) M hR hT hE hLK
 rw [ha,hac] at q_32
 have q_33:=Kh4 x y
 rw [hnv] at q_33
 have q_34:=Jx7 x y 1
 rw [hnv] at q_34
 have q_35:=Qn4 (⟨0,0,fun _ _=>0,0⟩:PL)
 rw [hpz] at q_35
 refine AW.wd [[.ext,.val,.val,.val,.val,.ext,.ext,.rd 1,.val,.val,.val,.val,.ext,.ext,.rd 3,.val,.val,.ext,.val,.val,.val,.val,.val,.val,.ext,.val,.val,.val,.val,.val,.val,.val,.ext,.val,.val,.val,.val,.val,.ext,.ext,.val,.val,.val,.val]] 2 U18 (ca4 Ji1 (q_28 _ (hSt.app _)) q_29 (ca4 (q_30 _ (hSt.app _)) q_31 (q_32 _ (hR3.app _)) (ca4 q_33 q_34 (Kb3 0 0) q_35))) ?_
 refine hQ _ _ _ ?_
 obtain ⟨X9,hX9⟩:=hmx
 simp only [hX9,List.append_assoc]
 refine RetP.drop (by first|exact Or.inr rfl|exact Or.inl rfl) ?_ ?_ hwf
 · (simp only [Jd3,Ja9,Jb6,AV.tv,push_cast,simprocAttr])<;>rfl
 rfl
theorem Kz8 (s:SC)(R:RWs)(fm sh t x y:Int)(m:Ja1)(hR:ScR 138 143 285 146 150 m s R):Ctr Tryz.prog 6 [.agg (scC s R),.one (.int .i64 fm),.one (.int .i64 sh),.one (.int .i64 t),.one (.int .i64 x),.one (.int .i64 y)] m (.one (.bool true)) m:=by
 by_cases hS:SmR s
 ·by_cases hc:(Jg1 s).1=0
  ·by_cases hf:fm<0\/s.fr<=fm
   ·exact Qk3 s R fm sh t x y m hR hS hc hf
   exact Qk2 s R fm sh t x y m hR hS hc (by omega) (by omega)
  exact Qk4 s R fm sh t x y m hR hS hc
 exact Qk5 s R fm sh t x y m hR hS
end Go.Proofs.YtaannomfigammaaGreat
