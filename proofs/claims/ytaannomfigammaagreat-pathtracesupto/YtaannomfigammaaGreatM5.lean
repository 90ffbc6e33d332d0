/- Walks and facts of this seat's program over abstract states, printed by programs of mine; no conditions but those that each theorem names. -/
import Derived.Test.YtaannomfigammaaGreatM4
set_option linter.unusedSimpArgs false
set_option linter.unusedVariables false
set_option maxRecDepth 100000
set_option maxHeartbeats 4000000
namespace Go.Proofs.YtaannomfigammaaGreat
open Go Go.Eng
theorem Kf9 (p:PR):prC p=(bxC p.a++bxC p.b):=rfl
theorem Xs0 (p q:PR)(r v:Nat)(m:Ja1)(hb:∃ k ez,m[r]?=some ⟨k,234,v,ez,prC q⟩):Ctr Tryz.prog 251 [.agg (prC p),.one (.sl r v 0 1)] m (.agg (prC (Qa3 p q))) m:=by
 refine Ctr.en Tryz.func251 [.cell 4 234] 28 fun hwf Q hQ=>?_
 obtain ⟨k0,ez,hb⟩:=hb
 have lb:=Jb4 hb
 have U1:=ca4 hb (Ja8 hb) @Kf9 (ca2 @Je7 @Ja4)
 refine AW.c 1 U1 Z0 ?_
 refine AW.q fun K hK=>?_
 refine AW.c 1 U1 Z0 ?_
 apply AW.b
 refine AW.r 2 ?_
 refine ARounds.s fun K hK=>?_
 refine AW.c 1 U1 Z0 ?_
 refine AW.ifT rfl ?_
 refine AW.q fun K hK=>?_
 apply AW.b
 refine AW.c 1 U1 Z0 ?_
 refine AW.drawX fol (by kernel_rfl) ?_
 refine DX.split 4 10 (by decide) ?_ ?_
 ·refine DX.split 5 10 (by decide) ?_ ?_
  ·refine DX.run [0,1,2,3,4,5,6,7,8,9,10,11,12,13] [.val,.rd 0,.val,.rd 0,.ext,.ext,.val,.rd 0,.val,.rd 0,.ext,.ext,.val,.wr] (by simp only [Jq6,Qq8,List.idxOf_cons,push_cast,simprocAttr,U1];first|done|rfl) (by kernel_rfl) ?_
   simp only [push_cast,simprocAttr,U1]
   refine DExt.by (by first|rfl|exact (List.append_nil _).symm|(simp only [List.append_assoc,List.cons_append,List.nil_append];rfl)) ?_
   simp only [push_cast,simprocAttr,U1]
   refine DCall.z (Km0 (p.a) (q.a) _ 0 _ ⟨.grow,6,by simp only [push_cast,simprocAttr];rfl⟩) ?_
   simp only [push_cast,simprocAttr,U1]
   refine DExt.by (by first|rfl|exact (List.append_nil _).symm|(simp only [List.append_assoc,List.cons_append,List.nil_append];rfl)) ?_
   simp only [push_cast,simprocAttr,U1]
   refine DCall.z (Km0 (p.b) (q.b) _ 0 _ ⟨.grow,6,by simp only [push_cast,simprocAttr];rfl⟩) ?_
   simp only [push_cast,simprocAttr,U1]
   apply Ja6
   apply hK;clear hK
   refine AW.g U1 Z0 ?_
   apply hK;clear hK
   refine ARounds.s fun K hK=>?_
   refine AW.c 1 U1 Z0 ?_
   refine AW.q fun K hK=>?_
   apply AW.x rfl
   apply AW.v
   apply Jb0
   clear hK
   apply Jb0
   clear hK
   apply Ja5
   apply hK;clear hK
   refine AW.c 1 U1 Z0 ?_
   exact AW.ret (hQ _ _ _ (RetP.z hwf Z0))
  refine DX.run [0,1,2,3,4,6,7,8,9,10,5,11,12,13] [.val,.rd 0,.val,.rd 0,.ext,.val,.rd 0,.val,.rd 0,.ext,.ext,.ext,.val,.wr] (by simp only [Jq6,Qq8,List.idxOf_cons,push_cast,simprocAttr,U1];first|done|rfl) (by kernel_rfl) ?_
  iterate 2
   simp only [push_cast,simprocAttr,U1]
   refine DExt.by (by first|rfl|exact (List.append_nil _).symm|(simp only [List.append_assoc,List.cons_append,List.nil_append];rfl)) ?_
  simp only [push_cast,simprocAttr,U1]
  refine DCall.z (Km0 (p.a) (q.a) _ 0 _ ⟨.grow,6,by simp only [push_cast,simprocAttr];rfl⟩) ?_
  simp only [push_cast,simprocAttr,U1]
  refine DCall.z (Km0 (p.b) (q.b) _ 0 _ ⟨.grow,6,by simp only [push_cast,simprocAttr];rfl⟩) ?_
  simp only [push_cast,simprocAttr,U1]
  apply Ja6
  apply hK;clear hK
  refine AW.g U1 Z0 ?_
  apply hK;clear hK
  refine ARounds.s fun K hK=>?_
  refine AW.c 1 U1 Z0 ?_
  refine AW.q fun K hK=>?_
  apply AW.x rfl
  apply AW.v
  apply Jb0
  clear hK
  apply Jb0
  clear hK
  apply Ja5
  apply hK;clear hK
  refine AW.c 1 U1 Z0 ?_
  exact AW.ret (hQ _ _ _ (RetP.z hwf Z0))
 refine DX.run [0,1,2,3,6,7,8,9,10,4,5,11,12,13] [.val,.rd 0,.val,.rd 0,.val,.rd 0,.val,.rd 0,.ext,.ext,.ext,.ext,.val,.wr] (by simp only [Jq6,Qq8,List.idxOf_cons,push_cast,simprocAttr,U1];first|done|rfl) (by kernel_rfl) ?_
 iterate 2
  simp only [push_cast,simprocAttr,U1]
  refine DExt.by (by first|rfl|exact (List.append_nil _).symm|(simp only [List.append_assoc,List.cons_append,List.nil_append];rfl)) ?_
 simp only [push_cast,simprocAttr,U1]
 refine DCall.z (Km0 (p.a) (q.a) _ 0 _ ⟨.grow,6,by simp only [push_cast,simprocAttr];rfl⟩) ?_
 simp only [push_cast,simprocAttr,U1]
 refine DCall.z (Km0 (p.b) (q.b) _ 0 _ ⟨.grow,6,by simp only [push_cast,simprocAttr];rfl⟩) ?_
 simp only [push_cast,simprocAttr,U1]
 apply Ja6
 apply hK;clear hK
 refine AW.g U1 Z0 ?_
 apply hK;clear hK
 refine ARounds.s fun K hK=>?_
 refine AW.c 1 U1 Z0 ?_
 refine AW.q fun K hK=>?_
 apply AW.x rfl
 apply AW.v
 apply Jb0
 clear hK
 apply Jb0
 clear hK
 apply Ja5
 apply hK;clear hK
 refine AW.c 1 U1 Z0 ?_
 exact AW.ret (hQ _ _ _ (RetP.z hwf Z0))
theorem Xe9 (b:BX)(m:Ja1)(g0:2147483648<=Jj1 (b.lo 0)):Ctr Tryz.prog 179 [.agg (bxC b)] m (.one (.bool true)) m:=by
 refine Ctr.en Tryz.func179 [.tmp 2] 26 fun hwf Q hQ=>?_
 have U2:=ca4 @Je7 @Ja4 @decide_true (ca2 @decide_false g0)
 refine AW.c 1 U2 Z0 ?_
 refine AW.q fun K hK=>?_
 refine AW.c 1 U2 Z0 ?_
 apply AW.b
 refine AW.r 4 ?_
 refine ARounds.s fun K hK=>?_
 refine AW.c 1 U2 Z0 ?_
 refine AW.ifT rfl ?_
 refine AW.q fun K hK=>?_
 apply AW.b
 refine AW.c 1 U2 Z0 ?_
 refine AW.d [.val,.rd 0,.val,.ext,.val,.rd 0,.val,.ext,.val,.val] fol U2 (ca2 (Jc6 b.lo) (Jc6 b.hi)) ?_
 apply AW.b
 refine AW.r 3 ?_
 refine ARounds.s fun K hK=>?_
 have U3:=ca2 U2 g0
 refine AW.c 1 U3 Z0 ?_
 refine AW.ifT rfl ?_
 refine AW.q fun K hK=>?_
 apply AW.b
 refine AW.c 2 U3 (Jj0 (b.lo 0)) ?_
 apply AW.y rfl
 refine AW.c 1 U3 Z0 ?_
 exact AW.ret (hQ _ _ _ (RetP.z hwf U3))
theorem Xe8 (b:BX)(m:Ja1)(g0:¬2147483648<=Jj1 (b.lo 0))(g1:2147483648<=Jj1 (b.hi 0)):Ctr Tryz.prog 179 [.agg (bxC b)] m (.one (.bool true)) m:=by
 refine Ctr.en Tryz.func179 [.tmp 2] 26 fun hwf Q hQ=>?_
 have U4:=ca4 @Je7 @Ja4 @decide_true (ca3 @decide_false g0 g1)
 refine AW.c 1 U4 Z0 ?_
 refine AW.q fun K hK=>?_
 refine AW.c 1 U4 Z0 ?_
 apply AW.b
 refine AW.r 4 ?_
 refine ARounds.s fun K hK=>?_
 refine AW.c 1 U4 Z0 ?_
 refine AW.ifT rfl ?_
 refine AW.q fun K hK=>?_
 apply AW.b
 refine AW.c 1 U4 Z0 ?_
 refine AW.d [.val,.rd 0,.val,.ext,.val,.rd 0,.val,.ext,.val,.val] fol U4 (ca2 (Jc6 b.lo) (Jc6 b.hi)) ?_
 apply AW.b
 refine AW.r 3 ?_
 refine ARounds.s fun K hK=>?_
 have U5:=ca2 U4 g0
 refine AW.c 1 U5 Z0 ?_
 refine AW.ifT rfl ?_
 refine AW.q fun K hK=>?_
 apply AW.b
 refine AW.c 2 U5 (Jj0 (b.lo 0)) ?_
 apply AW.x rfl
 apply AW.z
 apply Ja6
 apply hK;clear hK
 refine AW.g U5 Z0 ?_
 apply hK;clear hK
 refine ARounds.s fun K hK=>?_
 have U6:=ca2 U4 g1
 refine AW.c 1 U6 Z0 ?_
 refine AW.ifT rfl ?_
 refine AW.q fun K hK=>?_
 apply AW.b
 refine AW.c 2 U6 (Jj0 (b.hi 0)) ?_
 apply AW.y rfl
 refine AW.c 1 U6 Z0 ?_
 exact AW.ret (hQ _ _ _ (RetP.z hwf U6))
theorem Xe7 (b:BX)(m:Ja1)(g0:¬2147483648<=Jj1 (b.lo 0))(g1:¬2147483648<=Jj1 (b.hi 0))(g2:2147483648<=Jj1 (b.lo 1)):Ctr Tryz.prog 179 [.agg (bxC b)] m (.one (.bool true)) m:=by
 refine Ctr.en Tryz.func179 [.tmp 2] 26 fun hwf Q hQ=>?_
 have U7:=ca4 @Je7 @Ja4 @decide_true (ca4 @decide_false g0 g1 g2)
 refine AW.c 1 U7 Z0 ?_
 refine AW.q fun K hK=>?_
 refine AW.c 1 U7 Z0 ?_
 apply AW.b
 refine AW.r 4 ?_
 refine ARounds.s fun K hK=>?_
 refine AW.c 1 U7 Z0 ?_
 refine AW.ifT rfl ?_
 refine AW.q fun K hK=>?_
 apply AW.b
 refine AW.c 1 U7 Z0 ?_
 refine AW.d [.val,.rd 0,.val,.ext,.val,.rd 0,.val,.ext,.val,.val] fol U7 (ca2 (Jc6 b.lo) (Jc6 b.hi)) ?_
 apply AW.b
 refine AW.r 3 ?_
 refine ARounds.s fun K hK=>?_
 have U8:=ca2 U7 g0
 refine AW.c 1 U8 Z0 ?_
 refine AW.ifT rfl ?_
 refine AW.q fun K hK=>?_
 apply AW.b
 refine AW.c 2 U8 (Jj0 (b.lo 0)) ?_
 apply AW.x rfl
 apply AW.z
 apply Ja6
 apply hK;clear hK
 refine AW.g U8 Z0 ?_
 apply hK;clear hK
 refine ARounds.s fun K hK=>?_
 have U9:=ca2 U7 g1
 refine AW.c 1 U9 Z0 ?_
 refine AW.ifT rfl ?_
 refine AW.q fun K hK=>?_
 apply AW.b
 refine AW.c 2 U9 (Jj0 (b.hi 0)) ?_
 apply AW.x rfl
 apply AW.z
 apply Ja6
 apply hK;clear hK
 refine AW.g U9 Z0 ?_
 apply hK;clear hK
 refine ARounds.s fun K hK=>?_
 refine AW.c 1 U7 Z0 ?_
 refine AW.q fun K hK=>?_
 apply AW.x rfl
 apply AW.v
 apply Jb0
 clear hK
 apply Jb0
 clear hK
 apply Ja5
 apply Ja6
 apply hK;clear hK
 refine AW.g U7 Z0 ?_
 apply hK;clear hK
 refine ARounds.s fun K hK=>?_
 refine AW.c 1 U7 Z0 ?_
 refine AW.ifT rfl ?_
 refine AW.q fun K hK=>?_
 apply AW.b
 refine AW.c 1 U7 Z0 ?_
 refine AW.d [.val,.rd 0,.val,.ext,.val,.rd 0,.val,.ext,.val,.val] fol U7 (ca2 (Jd5 b.lo) (Jd5 b.hi)) ?_
 apply AW.b
 refine AW.r 3 ?_
 refine ARounds.s fun K hK=>?_
 have U10:=ca2 U7 g2
 refine AW.c 1 U10 Z0 ?_
 refine AW.ifT rfl ?_
 refine AW.q fun K hK=>?_
 apply AW.b
 refine AW.c 2 U10 (Jj0 (b.lo 1)) ?_
 apply AW.y rfl
 refine AW.c 1 U10 Z0 ?_
 exact AW.ret (hQ _ _ _ (RetP.z hwf U10))
theorem Xe6 (b:BX)(m:Ja1)(g0:¬2147483648<=Jj1 (b.lo 0))(g1:¬2147483648<=Jj1 (b.hi 0))(g2:¬2147483648<=Jj1 (b.lo 1))(g3:2147483648<=Jj1 (b.hi 1)):Ctr Tryz.prog 179 [.agg (bxC b)] m (.one (.bool true)) m:=by
 refine Ctr.en Tryz.func179 [.tmp 2] 26 fun hwf Q hQ=>?_
 have U11:=ca4 @Je7 @Ja4 @decide_true (ca4 @decide_false g0 g1 (ca2 g2 g3))
 refine AW.c 1 U11 Z0 ?_
 refine AW.q fun K hK=>?_
 refine AW.c 1 U11 Z0 ?_
 apply AW.b
 refine AW.r 4 ?_
 refine ARounds.s fun K hK=>?_
 refine AW.c 1 U11 Z0 ?_
 refine AW.ifT rfl ?_
 refine AW.q fun K hK=>?_
 apply AW.b
 refine AW.c 1 U11 Z0 ?_
 refine AW.d [.val,.rd 0,.val,.ext,.val,.rd 0,.val,.ext,.val,.val] fol U11 (ca2 (Jc6 b.lo) (Jc6 b.hi)) ?_
 apply AW.b
 refine AW.r 3 ?_
 refine ARounds.s fun K hK=>?_
 have U12:=ca2 U11 g0
 refine AW.c 1 U12 Z0 ?_
 refine AW.ifT rfl ?_
 refine AW.q fun K hK=>?_
 apply AW.b
 refine AW.c 2 U12 (Jj0 (b.lo 0)) ?_
 apply AW.x rfl
 apply AW.z
 apply Ja6
 apply hK;clear hK
 refine AW.g U12 Z0 ?_
 apply hK;clear hK
 refine ARounds.s fun K hK=>?_
 have U13:=ca2 U11 g1
 refine AW.c 1 U13 Z0 ?_
 refine AW.ifT rfl ?_
 refine AW.q fun K hK=>?_
 apply AW.b
 refine AW.c 2 U13 (Jj0 (b.hi 0)) ?_
 apply AW.x rfl
 apply AW.z
 apply Ja6
 apply hK;clear hK
 refine AW.g U13 Z0 ?_
 apply hK;clear hK
 refine ARounds.s fun K hK=>?_
 refine AW.c 1 U11 Z0 ?_
 refine AW.q fun K hK=>?_
 apply AW.x rfl
 apply AW.v
 apply Jb0
 clear hK
 apply Jb0
 clear hK
 apply Ja5
 apply Ja6
 apply hK;clear hK
 refine AW.g U11 Z0 ?_
 apply hK;clear hK
 refine ARounds.s fun K hK=>?_
 refine AW.c 1 U11 Z0 ?_
 refine AW.ifT rfl ?_
 refine AW.q fun K hK=>?_
 apply AW.b
 refine AW.c 1 U11 Z0 ?_
 refine AW.d [.val,.rd 0,.val,.ext,.val,.rd 0,.val,.ext,.val,.val] fol U11 (ca2 (Jd5 b.lo) (Jd5 b.hi)) ?_
 apply AW.b
 refine AW.r 3 ?_
 refine ARounds.s fun K hK=>?_
 have U14:=ca2 U11 g2
 refine AW.c 1 U14 Z0 ?_
 refine AW.ifT rfl ?_
 refine AW.q fun K hK=>?_
 apply AW.b
 refine AW.c 2 U14 (Jj0 (b.lo 1)) ?_
 apply AW.x rfl
 apply AW.z
 apply Ja6
 apply hK;clear hK
 refine AW.g U14 Z0 ?_
 apply hK;clear hK
 refine ARounds.s fun K hK=>?_
 have U15:=ca2 U11 g3
 refine AW.c 1 U15 Z0 ?_
 refine AW.ifT rfl ?_
 refine AW.q fun K hK=>?_
 apply AW.b
 refine AW.c 2 U15 (Jj0 (b.hi 1)) ?_
 apply AW.y rfl
 refine AW.c 1 U15 Z0 ?_
 exact AW.ret (hQ _ _ _ (RetP.z hwf U15))
theorem Xe5 (b:BX)(m:Ja1)(g0:¬2147483648<=Jj1 (b.lo 0))(g1:¬2147483648<=Jj1 (b.hi 0))(g2:¬2147483648<=Jj1 (b.lo 1))(g3:¬2147483648<=Jj1 (b.hi 1))(g4:2147483648<=Jj1 (b.lo 2)):Ctr Tryz.prog 179 [.agg (bxC b)] m (.one (.bool true)) m:=by
 refine Ctr.en Tryz.func179 [.tmp 2] 26 fun hwf Q hQ=>?_
 have U16:=ca4 @Je7 @Ja4 @decide_true (ca4 @decide_false g0 g1 (ca3 g2 g3 g4))
 refine AW.c 1 U16 Z0 ?_
 refine AW.q fun K hK=>?_
 refine AW.c 1 U16 Z0 ?_
 apply AW.b
 refine AW.r 4 ?_
 refine ARounds.s fun K hK=>?_
 refine AW.c 1 U16 Z0 ?_
 refine AW.ifT rfl ?_
 refine AW.q fun K hK=>?_
 apply AW.b
 refine AW.c 1 U16 Z0 ?_
 refine AW.d [.val,.rd 0,.val,.ext,.val,.rd 0,.val,.ext,.val,.val] fol U16 (ca2 (Jc6 b.lo) (Jc6 b.hi)) ?_
 apply AW.b
 refine AW.r 3 ?_
 refine ARounds.s fun K hK=>?_
 have U17:=ca2 U16 g0
 refine AW.c 1 U17 Z0 ?_
 refine AW.ifT rfl ?_
 refine AW.q fun K hK=>?_
 apply AW.b
 refine AW.c 2 U17 (Jj0 (b.lo 0)) ?_
 apply AW.x rfl
 apply AW.z
 apply Ja6
 apply hK;clear hK
 refine AW.g U17 Z0 ?_
 apply hK;clear hK
 refine ARounds.s fun K hK=>?_
 have U18:=ca2 U16 g1
 refine AW.c 1 U18 Z0 ?_
 refine AW.ifT rfl ?_
 refine AW.q fun K hK=>?_
 apply AW.b
 refine AW.c 2 U18 (Jj0 (b.hi 0)) ?_
 apply AW.x rfl
 apply AW.z
 apply Ja6
 apply hK;clear hK
 refine AW.g U18 Z0 ?_
 apply hK;clear hK
 refine ARounds.s fun K hK=>?_
 refine AW.c 1 U16 Z0 ?_
 refine AW.q fun K hK=>?_
 apply AW.x rfl
 apply AW.v
 apply Jb0
 clear hK
 apply Jb0
 clear hK
 apply Ja5
 apply Ja6
 apply hK;clear hK
 refine AW.g U16 Z0 ?_
 apply hK;clear hK
 refine ARounds.s fun K hK=>?_
 refine AW.c 1 U16 Z0 ?_
 refine AW.ifT rfl ?_
 refine AW.q fun K hK=>?_
 apply AW.b
 refine AW.c 1 U16 Z0 ?_
 refine AW.d [.val,.rd 0,.val,.ext,.val,.rd 0,.val,.ext,.val,.val] fol U16 (ca2 (Jd5 b.lo) (Jd5 b.hi)) ?_
 apply AW.b
 refine AW.r 3 ?_
 refine ARounds.s fun K hK=>?_
 have U19:=ca2 U16 g2
 refine AW.c 1 U19 Z0 ?_
 refine AW.ifT rfl ?_
 refine AW.q fun K hK=>?_
 apply AW.b
 refine AW.c 2 U19 (Jj0 (b.lo 1)) ?_
 apply AW.x rfl
 apply AW.z
 apply Ja6
 apply hK;clear hK
 refine AW.g U19 Z0 ?_
 apply hK;clear hK
 refine ARounds.s fun K hK=>?_
 have U20:=ca2 U16 g3
 refine AW.c 1 U20 Z0 ?_
 refine AW.ifT rfl ?_
 refine AW.q fun K hK=>?_
 apply AW.b
 refine AW.c 2 U20 (Jj0 (b.hi 1)) ?_
 apply AW.x rfl
 apply AW.z
 apply Ja6
 apply hK;clear hK
 refine AW.g U20 Z0 ?_
 apply hK;clear hK
 refine ARounds.s fun K hK=>?_
 refine AW.c 1 U16 Z0 ?_
 refine AW.q fun K hK=>?_
 apply AW.x rfl
 apply AW.v
 apply Jb0
 clear hK
 apply Jb0
 clear hK
 apply Ja5
 apply Ja6
 apply hK;clear hK
 refine AW.g U16 Z0 ?_
 apply hK;clear hK
 refine ARounds.s fun K hK=>?_
 refine AW.c 1 U16 Z0 ?_
 refine AW.ifT rfl ?_
 refine AW.q fun K hK=>?_
 apply AW.b
 refine AW.c 1 U16 Z0 ?_
 refine AW.d [.val,.rd 0,.val,.ext,.val,.rd 0,.val,.ext,.val,.val] fol U16 (ca2 (Jf6 b.lo) (Jf6 b.hi)) ?_
 apply AW.b
 refine AW.r 3 ?_
 refine ARounds.s fun K hK=>?_
 have U21:=ca2 U16 g4
 refine AW.c 1 U21 Z0 ?_
 refine AW.ifT rfl ?_
 refine AW.q fun K hK=>?_
 apply AW.b
 refine AW.c 2 U21 (Jj0 (b.lo 2)) ?_
 apply AW.y rfl
 refine AW.c 1 U21 Z0 ?_
 exact AW.ret (hQ _ _ _ (RetP.z hwf U21))
theorem Xe4 (b:BX)(m:Ja1)(g0:¬2147483648<=Jj1 (b.lo 0))(g1:¬2147483648<=Jj1 (b.hi 0))(g2:¬2147483648<=Jj1 (b.lo 1))(g3:¬2147483648<=Jj1 (b.hi 1))(g4:¬2147483648<=Jj1 (b.lo 2))(g5:2147483648<=Jj1 (b.hi 2)):Ctr Tryz.prog 179 [.agg (bxC b)] m (.one (.bool true)) m:=by
 refine Ctr.en Tryz.func179 [.tmp 2] 26 fun hwf Q hQ=>?_
 have U22:=ca4 @Je7 @Ja4 @decide_true (ca4 @decide_false g0 g1 (ca4 g2 g3 g4 g5))
 refine AW.c 1 U22 Z0 ?_
 refine AW.q fun K hK=>?_
 refine AW.c 1 U22 Z0 ?_
 apply AW.b
 refine AW.r 4 ?_
 refine ARounds.s fun K hK=>?_
 refine AW.c 1 U22 Z0 ?_
 refine AW.ifT rfl ?_
 refine AW.q fun K hK=>?_
 apply AW.b
 refine AW.c 1 U22 Z0 ?_
 refine AW.d [.val,.rd 0,.val,.ext,.val,.rd 0,.val,.ext,.val,.val] fol U22 (ca2 (Jc6 b.lo) (Jc6 b.hi)) ?_
 apply AW.b
 refine AW.r 3 ?_
 refine ARounds.s fun K hK=>?_
 have U23:=ca2 U22 g0
 refine AW.c 1 U23 Z0 ?_
 refine AW.ifT rfl ?_
 refine AW.q fun K hK=>?_
 apply AW.b
 refine AW.c 2 U23 (Jj0 (b.lo 0)) ?_
 apply AW.x rfl
 apply AW.z
 apply Ja6
 apply hK;clear hK
 refine AW.g U23 Z0 ?_
 apply hK;clear hK
 refine ARounds.s fun K hK=>?_
 have U24:=ca2 U22 g1
 refine AW.c 1 U24 Z0 ?_
 refine AW.ifT rfl ?_
 refine AW.q fun K hK=>?_
 apply AW.b
 refine AW.c 2 U24 (Jj0 (b.hi 0)) ?_
 apply AW.x rfl
 apply AW.z
 apply Ja6
 apply hK;clear hK
 refine AW.g U24 Z0 ?_
 apply hK;clear hK
 refine ARounds.s fun K hK=>?_
 refine AW.c 1 U22 Z0 ?_
 refine AW.q fun K hK=>?_
 apply AW.x rfl
 apply AW.v
 apply Jb0
 clear hK
 apply Jb0
 clear hK
 apply Ja5
 apply Ja6
 apply hK;clear hK
 refine AW.g U22 Z0 ?_
 apply hK;clear hK
 refine ARounds.s fun K hK=>?_
 refine AW.c 1 U22 Z0 ?_
 refine AW.ifT rfl ?_
 refine AW.q fun K hK=>?_
 apply AW.b
 refine AW.c 1 U22 Z0 ?_
 refine AW.d [.val,.rd 0,.val,.ext,.val,.rd 0,.val,.ext,.val,.val] fol U22 (ca2 (Jd5 b.lo) (Jd5 b.hi)) ?_
 apply AW.b
 refine AW.r 3 ?_
 refine ARounds.s fun K hK=>?_
 have U25:=ca2 U22 g2
 refine AW.c 1 U25 Z0 ?_
 refine AW.ifT rfl ?_
 refine AW.q fun K hK=>?_
 apply AW.b
 refine AW.c 2 U25 (Jj0 (b.lo 1)) ?_
 apply AW.x rfl
 apply AW.z
 apply Ja6
 apply hK;clear hK
 refine AW.g U25 Z0 ?_
 apply hK;clear hK
 refine ARounds.s fun K hK=>?_
 have U26:=ca2 U22 g3
 refine AW.c 1 U26 Z0 ?_
 refine AW.ifT rfl ?_
 refine AW.q fun K hK=>?_
 apply AW.b
 refine AW.c 2 U26 (Jj0 (b.hi 1)) ?_
 apply AW.x rfl
 apply AW.z
 apply Ja6
 apply hK;clear hK
 refine AW.g U26 Z0 ?_
 apply hK;clear hK
 refine ARounds.s fun K hK=>?_
 refine AW.c 1 U22 Z0 ?_
 refine AW.q fun K hK=>?_
 apply AW.x rfl
 apply AW.v
 apply Jb0
 clear hK
 apply Jb0
 clear hK
 apply Ja5
 apply Ja6
 apply hK;clear hK
 refine AW.g U22 Z0 ?_
 apply hK;clear hK
 refine ARounds.s fun K hK=>?_
 refine AW.c 1 U22 Z0 ?_
 refine AW.ifT rfl ?_
 refine AW.q fun K hK=>?_
 apply AW.b
 refine AW.c 1 U22 Z0 ?_
 refine AW.d [.val,.rd 0,.val,.ext,.val,.rd 0,.val,.ext,.val,.val] fol U22 (ca2 (Jf6 b.lo) (Jf6 b.hi)) ?_
 apply AW.b
 refine AW.r 3 ?_
 refine ARounds.s fun K hK=>?_
 have U27:=ca2 U22 g4
 refine AW.c 1 U27 Z0 ?_
 refine AW.ifT rfl ?_
 refine AW.q fun K hK=>?_
 apply AW.b
 refine AW.c 2 U27 (Jj0 (b.lo 2)) ?_
 apply AW.x rfl
 apply AW.z
 apply Ja6
 apply hK;clear hK
 refine AW.g U27 Z0 ?_
 apply hK;clear hK
 refine ARounds.s fun K hK=>?_
 have U28:=ca2 U22 g5
 refine AW.c 1 U28 Z0 ?_
 refine AW.ifT rfl ?_
 refine AW.q fun K hK=>?_
 apply AW.b
 refine AW.c 2 U28 (Jj0 (b.hi 2)) ?_
 apply AW.y rfl
 refine AW.c 1 U28 Z0 ?_
 exact AW.ret (hQ _ _ _ (RetP.z hwf U28))
theorem Xe3 (b:BX)(m:Ja1)(g0:¬2147483648<=Jj1 (b.lo 0))(g1:¬2147483648<=Jj1 (b.hi 0))(g2:¬2147483648<=Jj1 (b.lo 1))(g3:¬2147483648<=Jj1 (b.hi 1))(g4:¬2147483648<=Jj1 (b.lo 2))(g5:¬2147483648<=Jj1 (b.hi 2)):Ctr Tryz.prog 179 [.agg (bxC b)] m (.one (.bool false)) m:=by
 refine Ctr.en Tryz.func179 [.tmp 2] 26 fun hwf Q hQ=>?_
 have U29:=ca4 @Je7 @Ja4 @decide_true (ca4 @decide_false g0 g1 (ca4 g2 g3 g4 g5))
 refine AW.c 1 U29 Z0 ?_
 refine AW.q fun K hK=>?_
 refine AW.c 1 U29 Z0 ?_
 apply AW.b
 refine AW.r 4 ?_
 refine ARounds.s fun K hK=>?_
 refine AW.c 1 U29 Z0 ?_
 refine AW.ifT rfl ?_
 refine AW.q fun K hK=>?_
 apply AW.b
 refine AW.c 1 U29 Z0 ?_
 refine AW.d [.val,.rd 0,.val,.ext,.val,.rd 0,.val,.ext,.val,.val] fol U29 (ca2 (Jc6 b.lo) (Jc6 b.hi)) ?_
 apply AW.b
 refine AW.r 3 ?_
 refine ARounds.s fun K hK=>?_
 have U30:=ca2 U29 g0
 refine AW.c 1 U30 Z0 ?_
 refine AW.ifT rfl ?_
 refine AW.q fun K hK=>?_
 apply AW.b
 refine AW.c 2 U30 (Jj0 (b.lo 0)) ?_
 apply AW.x rfl
 apply AW.z
 apply Ja6
 apply hK;clear hK
 refine AW.g U30 Z0 ?_
 apply hK;clear hK
 refine ARounds.s fun K hK=>?_
 have U31:=ca2 U29 g1
 refine AW.c 1 U31 Z0 ?_
 refine AW.ifT rfl ?_
 refine AW.q fun K hK=>?_
 apply AW.b
 refine AW.c 2 U31 (Jj0 (b.hi 0)) ?_
 apply AW.x rfl
 apply AW.z
 apply Ja6
 apply hK;clear hK
 refine AW.g U31 Z0 ?_
 apply hK;clear hK
 refine ARounds.s fun K hK=>?_
 refine AW.c 1 U29 Z0 ?_
 refine AW.q fun K hK=>?_
 apply AW.x rfl
 apply AW.v
 apply Jb0
 clear hK
 apply Jb0
 clear hK
 apply Ja5
 apply Ja6
 apply hK;clear hK
 refine AW.g U29 Z0 ?_
 apply hK;clear hK
 refine ARounds.s fun K hK=>?_
 refine AW.c 1 U29 Z0 ?_
 refine AW.ifT rfl ?_
 refine AW.q fun K hK=>?_
 apply AW.b
 refine AW.c 1 U29 Z0 ?_
 refine AW.d [.val,.rd 0,.val,.ext,.val,.rd 0,.val,.ext,.val,.val] fol U29 (ca2 (Jd5 b.lo) (Jd5 b.hi)) ?_
 apply AW.b
 refine AW.r 3 ?_
 refine ARounds.s fun K hK=>?_
 have U32:=ca2 U29 g2
 refine AW.c 1 U32 Z0 ?_
 refine AW.ifT rfl ?_
 refine AW.q fun K hK=>?_
 apply AW.b
 refine AW.c 2 U32 (Jj0 (b.lo 1)) ?_
 apply AW.x rfl
 apply AW.z
 apply Ja6
 apply hK;clear hK
 refine AW.g U32 Z0 ?_
 apply hK;clear hK
 refine ARounds.s fun K hK=>?_
 have U33:=ca2 U29 g3
 refine AW.c 1 U33 Z0 ?_
 refine AW.ifT rfl ?_
 refine AW.q fun K hK=>?_
 apply AW.b
 refine AW.c 2 U33 (Jj0 (b.hi 1)) ?_
 apply AW.x rfl
 apply AW.z
 apply Ja6
 apply hK;clear hK
 refine AW.g U33 Z0 ?_
 apply hK;clear hK
 refine ARounds.s fun K hK=>?_
 refine AW.c 1 U29 Z0 ?_
 refine AW.q fun K hK=>?_
 apply AW.x rfl
 apply AW.v
 apply Jb0
 clear hK
 apply Jb0
 clear hK
 apply Ja5
 apply Ja6
 apply hK;clear hK
 refine AW.g U29 Z0 ?_
 apply hK;clear hK
 refine ARounds.s fun K hK=>?_
 refine AW.c 1 U29 Z0 ?_
 refine AW.ifT rfl ?_
 refine AW.q fun K hK=>?_
 apply AW.b
 refine AW.c 1 U29 Z0 ?_
 refine AW.d [.val,.rd 0,.val,.ext,.val,.rd 0,.val,.ext,.val,.val] fol U29 (ca2 (Jf6 b.lo) (Jf6 b.hi)) ?_
 apply AW.b
 refine AW.r 3 ?_
 refine ARounds.s fun K hK=>?_
 have U34:=ca2 U29 g4
 refine AW.c 1 U34 Z0 ?_
 refine AW.ifT rfl ?_
 refine AW.q fun K hK=>?_
 apply AW.b
 refine AW.c 2 U34 (Jj0 (b.lo 2)) ?_
 apply AW.x rfl
 apply AW.z
 apply Ja6
 apply hK;clear hK
 refine AW.g U34 Z0 ?_
 apply hK;clear hK
 refine ARounds.s fun K hK=>?_
 have U35:=ca2 U29 g5
 refine AW.c 1 U35 Z0 ?_
 refine AW.ifT rfl ?_
 refine AW.q fun K hK=>?_
 apply AW.b
 refine AW.c 2 U35 (Jj0 (b.hi 2)) ?_
 apply AW.x rfl
 apply AW.z
 apply Ja6
 apply hK;clear hK
 refine AW.g U35 Z0 ?_
 apply hK;clear hK
 refine ARounds.s fun K hK=>?_
 refine AW.c 1 U29 Z0 ?_
 refine AW.q fun K hK=>?_
 apply AW.x rfl
 apply AW.v
 apply Jb0
 clear hK
 apply Jb0
 clear hK
 apply Ja5
 apply Ja6
 apply hK;clear hK
 refine AW.g U29 Z0 ?_
 apply hK;clear hK
 refine ARounds.s fun K hK=>?_
 refine AW.c 1 U29 Z0 ?_
 refine AW.q fun K hK=>?_
 apply AW.x rfl
 apply AW.v
 apply Jb0
 clear hK
 apply Jb0
 clear hK
 apply Ja5
 apply hK;clear hK
 refine AW.c 1 U29 Z0 ?_
 exact AW.ret (hQ _ _ _ (RetP.z hwf U29))
theorem Kn0 (b:BX)(m:Ja1)(q:Bool)(hq:q=true↔Kd0 b):Ctr Tryz.prog 179 [.agg (bxC b)] m (.one (.bool q)) m:=by
 by_cases g0:2147483648<=Jj1 (b.lo 0)
 ·obtain rfl:q=true:=hq.2 ⟨0,by omega,.inl g0⟩
  exact Xe9 b m g0
 by_cases g1:2147483648<=Jj1 (b.hi 0)
 ·obtain rfl:q=true:=hq.2 ⟨0,by omega,.inr g1⟩
  exact Xe8 b m g0 g1
 by_cases g2:2147483648<=Jj1 (b.lo 1)
 ·obtain rfl:q=true:=hq.2 ⟨1,by omega,.inl g2⟩
  exact Xe7 b m g0 g1 g2
 by_cases g3:2147483648<=Jj1 (b.hi 1)
 ·obtain rfl:q=true:=hq.2 ⟨1,by omega,.inr g3⟩
  exact Xe6 b m g0 g1 g2 g3
 by_cases g4:2147483648<=Jj1 (b.lo 2)
 ·obtain rfl:q=true:=hq.2 ⟨2,by omega,.inl g4⟩
  exact Xe5 b m g0 g1 g2 g3 g4
 by_cases g5:2147483648<=Jj1 (b.hi 2)
 ·obtain rfl:q=true:=hq.2 ⟨2,by omega,.inr g5⟩
  exact Xe4 b m g0 g1 g2 g3 g4 g5
 obtain rfl:q=false:=by
  cases q with
  | false=>rfl
  | true =>
   obtain ⟨k,hk,h⟩:=hq.1 rfl
   match k,hk,h with
   | 0,_,.inl h=>exact absurd h g0
   | 0,_,.inr h=>exact absurd h g1
   | 1,_,.inl h=>exact absurd h g2
   | 1,_,.inr h=>exact absurd h g3
   | 2,_,.inl h=>exact absurd h g4
   | 2,_,.inr h=>exact absurd h g5
 exact Xe3 b m g0 g1 g2 g3 g4 g5
theorem Xn0 (p:PR)(t:Int)(m:Ja1):Ctr Tryz.prog 123 [.agg (prC p),.one (.int .i64 t)] m (.agg (bxC (atP p t))) m:=by
 refine Ctr.en Tryz.func123 [.cell 4 232] 22 fun hwf Q hQ=>?_
 have U36:=ca3 @Kf9 @Je7 @Ja4
 refine AW.c 1 U36 Z0 ?_
 refine AW.d [.val,.val,.rd 0,.val,.val,.rd 0,.val,.ext,.val,.val,.rd 0,.val,.val,.rd 0,.val,.ext,.val,.wr] fol U36 (ca2 (Kg1 p.a.lo p.b.lo t) (Kg1 p.a.hi p.b.hi t)) ?_
 exact AW.ret (hQ _ _ _ (RetP.z hwf Z0))
theorem Qg9 (p:PR)(m:Ja1):Ctr Tryz.prog 182 [.agg (prC p)] m (.agg (bxC (Jp7 p))) m:=by
 refine Ctr.en Tryz.func182 [.cell 2 232] 9 fun hwf Q hQ=>?_
 refine AW.sr 2 fun K hK=>?_
 simp only [push_cast,simprocAttr,prC,bxC,c3C]
 refine CThen.by (Km0 p.a p.b _ 0 _ ⟨.grow,6,by simp only [push_cast,simprocAttr];rfl⟩) ?_
 simp only [push_cast,simprocAttr,prC,bxC,c3C]
 apply hK;clear hK
 exact AW.ret (hQ _ _ _ (RetP.z hwf Z0))
theorem Vj1 (b:BX)(m:Ja1):Ctr Tryz.prog 183 [.agg (bxC b)] m (.agg (c3C (Xn7 b))) m:=by
 refine Ctr.en Tryz.func183 [.cell 2 59] 8 fun hwf Q hQ=>?_
 have U37:=ca2 @Je7 @Ja4
 refine AW.c 2 U37 (Kg1 b.lo b.hi 32768) ?_
 exact AW.ret (hQ _ _ _ (RetP.z hwf Z0))
theorem Vc0 (b:BX)(m:Ja1):Ctr Tryz.prog 252 [.agg (bxC b)] m (.agg (c3C (Jt2 b))) m:=by
 refine Ctr.en Tryz.func252 [.cell 2 59] 8 fun hwf Q hQ=>?_
 have U38:=ca2 @Je7 @Ja4
 refine AW.c 2 U38 (Jk0 b.hi b.lo) ?_
 exact AW.ret (hQ _ _ _ (RetP.z hwf Z0))
theorem Xj2 (b:BX)(m:Ja1):Ctr Tryz.prog 267 [.agg (bxC b)] m (.one (.int .i64 (Kw2 b))) m:=by
 refine Ctr.en Tryz.func267 [.tmp 2] 23 fun hwf Q hQ=>?_
 have hv:Kw2 b=Jd6 (Jd6 (Jd6 0 (Jd8 (Jt2 b 0) (Jt2 b 1))) (Jd8 (Jt2 b 1) (Jt2 b 2))) (Jd8 (Jt2 b 2) (Jt2 b 0)):=rfl
 rw [hv] at hQ
 have U39:=ca2 @Je7 @Ja4
 refine AW.c 2 U39 (Vc0 b) ?_
 refine AW.q fun K hK=>?_
 refine AW.draw [.val,.rd 0,.val,.rd 0,.ext,.val,.rd 0,.val,.rd 0,.ext,.val,.rd 0,.val,.rd 0,.ext,.ext,.ext,.val] fol (by decide) (by kernel_rfl) ?_
 iterate 3
  simp only [push_cast,simprocAttr,U39]
  refine DCall.z (Jm2 _ _ _) ?_
 simp only [push_cast,simprocAttr,U39]
 refine DExt.by (by first|rfl|exact (List.append_nil _).symm|(simp only [List.append_assoc,List.cons_append,List.nil_append];rfl)) ?_
 simp only [push_cast,simprocAttr,U39]
 refine DCall.z (Vq9 _ 0 (Jd8 (Jt2 b 0) (Jt2 b 1)) (Jd8 (Jt2 b 1) (Jt2 b 2)) (Jd8 (Jt2 b 2) (Jt2 b 0)) _ ⟨.grow,1,by simp only [push_cast,simprocAttr]⟩) ?_
 simp only [push_cast,simprocAttr,U39]
 apply hK;clear hK
 exact AW.ret (hQ _ _ _ (RetP.z hwf U39))
theorem Vj9 (b c:BX)(m:Ja1)(g0:c.hi 0<b.lo 0):Ctr Tryz.prog 124 [.agg (bxC b),.agg (bxC c)] m (.one (.bool false)) m:=by
 refine Ctr.en Tryz.func124 [.tmp 4] 30 fun hwf Q hQ=>?_
 have U40:=ca4 @Je7 @Ja4 @decide_true (ca2 @decide_false g0)
 refine AW.c 1 U40 Z0 ?_
 refine AW.q fun K hK=>?_
 refine AW.c 1 U40 Z0 ?_
 apply AW.b
 refine AW.r 4 ?_
 refine ARounds.s fun K hK=>?_
 refine AW.c 1 U40 Z0 ?_
 refine AW.ifT rfl ?_
 refine AW.q fun K hK=>?_
 apply AW.b
 refine AW.c 1 U40 Z0 ?_
 refine AW.q fun K hK=>?_
 refine AW.draw [.val,.rd 0,.val,.ext,.val,.rd 0,.val,.ext,.val,.val,.val,.rd 2,.val,.ext,.val,.rd 2,.val,.ext,.val,.val] fol (by decide) (by kernel_rfl) ?_
 simp only [push_cast,simprocAttr,U40]
 refine DCall.z (Jc6 c.hi _) ?_
 simp only [push_cast,simprocAttr,U40]
 refine DCall.z (Jc6 b.lo _) ?_
 simp only [push_cast,simprocAttr,U40]
 try (refine DCall.z (Jc6 c.lo _) ?_;simp only [push_cast,simprocAttr,U40])
 try (refine DCall.z (Jc6 b.hi _) ?_;simp only [push_cast,simprocAttr,U40])
 apply hK;clear hK
 apply AW.y rfl
 refine AW.c 1 U40 Z0 ?_
 exact AW.ret (hQ _ _ _ (RetP.z hwf U40))
theorem Vj8 (b c:BX)(m:Ja1)(g0:¬c.hi 0<b.lo 0)(g1:b.hi 0<c.lo 0):Ctr Tryz.prog 124 [.agg (bxC b),.agg (bxC c)] m (.one (.bool false)) m:=by
 refine Ctr.en Tryz.func124 [.tmp 4] 30 fun hwf Q hQ=>?_
 have U41:=ca4 @Je7 @Ja4 @decide_true (ca3 @decide_false g0 g1)
 refine AW.c 1 U41 Z0 ?_
 refine AW.q fun K hK=>?_
 refine AW.c 1 U41 Z0 ?_
 apply AW.b
 refine AW.r 4 ?_
 refine ARounds.s fun K hK=>?_
 refine AW.c 1 U41 Z0 ?_
 refine AW.ifT rfl ?_
 refine AW.q fun K hK=>?_
 apply AW.b
 refine AW.c 1 U41 Z0 ?_
 refine AW.q fun K hK=>?_
 refine AW.draw [.val,.rd 0,.val,.ext,.val,.rd 0,.val,.ext,.val,.val,.val,.rd 2,.val,.ext,.val,.rd 2,.val,.ext,.val,.val] fol (by decide) (by kernel_rfl) ?_
 simp only [push_cast,simprocAttr,U41]
 refine DCall.z (Jc6 c.hi _) ?_
 simp only [push_cast,simprocAttr,U41]
 refine DCall.z (Jc6 b.lo _) ?_
 simp only [push_cast,simprocAttr,U41]
 try (refine DCall.z (Jc6 c.lo _) ?_;simp only [push_cast,simprocAttr,U41])
 try (refine DCall.z (Jc6 b.hi _) ?_;simp only [push_cast,simprocAttr,U41])
 apply hK;clear hK
 apply AW.y rfl
 refine AW.c 1 U41 Z0 ?_
 exact AW.ret (hQ _ _ _ (RetP.z hwf U41))
theorem Vj7 (b c:BX)(m:Ja1)(g0:¬c.hi 0<b.lo 0)(g1:¬b.hi 0<c.lo 0)(g2:c.hi 1<b.lo 1):Ctr Tryz.prog 124 [.agg (bxC b),.agg (bxC c)] m (.one (.bool false)) m:=by
 refine Ctr.en Tryz.func124 [.tmp 4] 30 fun hwf Q hQ=>?_
 have U42:=ca4 @Je7 @Ja4 @decide_true (ca4 @decide_false g0 g1 g2)
 refine AW.c 1 U42 Z0 ?_
 refine AW.q fun K hK=>?_
 refine AW.c 1 U42 Z0 ?_
 apply AW.b
 refine AW.r 4 ?_
 refine ARounds.s fun K hK=>?_
 refine AW.c 1 U42 Z0 ?_
 refine AW.ifT rfl ?_
 refine AW.q fun K hK=>?_
 apply AW.b
 refine AW.c 1 U42 Z0 ?_
 refine AW.q fun K hK=>?_
 refine AW.draw [.val,.rd 0,.val,.ext,.val,.rd 0,.val,.ext,.val,.val,.val,.rd 2,.val,.ext,.val,.rd 2,.val,.ext,.val,.val] fol (by decide) (by kernel_rfl) ?_
 simp only [push_cast,simprocAttr,U42]
 refine DCall.z (Jc6 c.hi _) ?_
 simp only [push_cast,simprocAttr,U42]
 refine DCall.z (Jc6 b.lo _) ?_
 simp only [push_cast,simprocAttr,U42]
 try (refine DCall.z (Jc6 c.lo _) ?_;simp only [push_cast,simprocAttr,U42])
 try (refine DCall.z (Jc6 b.hi _) ?_;simp only [push_cast,simprocAttr,U42])
 apply hK;clear hK
 apply AW.x rfl
 apply AW.z
 apply Ja6
 apply hK;clear hK
 refine AW.g U42 Z0 ?_
 apply hK;clear hK
 refine ARounds.s fun K hK=>?_
 refine AW.c 1 U42 Z0 ?_
 refine AW.ifT rfl ?_
 refine AW.q fun K hK=>?_
 apply AW.b
 refine AW.c 1 U42 Z0 ?_
 refine AW.q fun K hK=>?_
 refine AW.draw [.val,.rd 0,.val,.ext,.val,.rd 0,.val,.ext,.val,.val,.val,.rd 2,.val,.ext,.val,.rd 2,.val,.ext,.val,.val] fol (by decide) (by kernel_rfl) ?_
 simp only [push_cast,simprocAttr,U42]
 refine DCall.z (Jd5 c.hi _) ?_
 simp only [push_cast,simprocAttr,U42]
 refine DCall.z (Jd5 b.lo _) ?_
 simp only [push_cast,simprocAttr,U42]
 try (refine DCall.z (Jd5 c.lo _) ?_;simp only [push_cast,simprocAttr,U42])
 try (refine DCall.z (Jd5 b.hi _) ?_;simp only [push_cast,simprocAttr,U42])
 apply hK;clear hK
 apply AW.y rfl
 refine AW.c 1 U42 Z0 ?_
 exact AW.ret (hQ _ _ _ (RetP.z hwf U42))
theorem Vj6 (b c:BX)(m:Ja1)(g0:¬c.hi 0<b.lo 0)(g1:¬b.hi 0<c.lo 0)(g2:¬c.hi 1<b.lo 1)(g3:b.hi 1<c.lo 1):Ctr Tryz.prog 124 [.agg (bxC b),.agg (bxC c)] m (.one (.bool false)) m:=by
 refine Ctr.en Tryz.func124 [.tmp 4] 30 fun hwf Q hQ=>?_
 have U43:=ca4 @Je7 @Ja4 @decide_true (ca4 @decide_false g0 g1 (ca2 g2 g3))
 refine AW.c 1 U43 Z0 ?_
 refine AW.q fun K hK=>?_
 refine AW.c 1 U43 Z0 ?_
 apply AW.b
 refine AW.r 4 ?_
 refine ARounds.s fun K hK=>?_
 refine AW.c 1 U43 Z0 ?_
 refine AW.ifT rfl ?_
 refine AW.q fun K hK=>?_
 apply AW.b
 refine AW.c 1 U43 Z0 ?_
 refine AW.q fun K hK=>?_
 refine AW.draw [.val,.rd 0,.val,.ext,.val,.rd 0,.val,.ext,.val,.val,.val,.rd 2,.val,.ext,.val,.rd 2,.val,.ext,.val,.val] fol (by decide) (by kernel_rfl) ?_
 simp only [push_cast,simprocAttr,U43]
 refine DCall.z (Jc6 c.hi _) ?_
 simp only [push_cast,simprocAttr,U43]
 refine DCall.z (Jc6 b.lo _) ?_
 simp only [push_cast,simprocAttr,U43]
 try (refine DCall.z (Jc6 c.lo _) ?_;simp only [push_cast,simprocAttr,U43])
 try (refine DCall.z (Jc6 b.hi _) ?_;simp only [push_cast,simprocAttr,U43])
 apply hK;clear hK
 apply AW.x rfl
 apply AW.z
 apply Ja6
 apply hK;clear hK
 refine AW.g U43 Z0 ?_
 apply hK;clear hK
 refine ARounds.s fun K hK=>?_
 refine AW.c 1 U43 Z0 ?_
 refine AW.ifT rfl ?_
 refine AW.q fun K hK=>?_
 apply AW.b
 refine AW.c 1 U43 Z0 ?_
 refine AW.q fun K hK=>?_
 refine AW.draw [.val,.rd 0,.val,.ext,.val,.rd 0,.val,.ext,.val,.val,.val,.rd 2,.val,.ext,.val,.rd 2,.val,.ext,.val,.val] fol (by decide) (by kernel_rfl) ?_
 simp only [push_cast,simprocAttr,U43]
 refine DCall.z (Jd5 c.hi _) ?_
 simp only [push_cast,simprocAttr,U43]
 refine DCall.z (Jd5 b.lo _) ?_
 simp only [push_cast,simprocAttr,U43]
 try (refine DCall.z (Jd5 c.lo _) ?_;simp only [push_cast,simprocAttr,U43])
 try (refine DCall.z (Jd5 b.hi _) ?_;simp only [push_cast,simprocAttr,U43])
 apply hK;clear hK
 apply AW.y rfl
 refine AW.c 1 U43 Z0 ?_
 exact AW.ret (hQ _ _ _ (RetP.z hwf U43))
theorem Vj5 (b c:BX)(m:Ja1)(g0:¬c.hi 0<b.lo 0)(g1:¬b.hi 0<c.lo 0)(g2:¬c.hi 1<b.lo 1)(g3:¬b.hi 1<c.lo 1)(g4:c.hi 2<b.lo 2):Ctr Tryz.prog 124 [.agg (bxC b),.agg (bxC c)] m (.one (.bool false)) m:=by
 refine Ctr.en Tryz.func124 [.tmp 4] 30 fun hwf Q hQ=>?_
 have U44:=ca4 @Je7 @Ja4 @decide_true (ca4 @decide_false g0 g1 (ca3 g2 g3 g4))
 refine AW.c 1 U44 Z0 ?_
 refine AW.q fun K hK=>?_
 refine AW.c 1 U44 Z0 ?_
 apply AW.b
 refine AW.r 4 ?_
 refine ARounds.s fun K hK=>?_
 refine AW.c 1 U44 Z0 ?_
 refine AW.ifT rfl ?_
 refine AW.q fun K hK=>?_
 apply AW.b
 refine AW.c 1 U44 Z0 ?_
 refine AW.q fun K hK=>?_
 refine AW.draw [.val,.rd 0,.val,.ext,.val,.rd 0,.val,.ext,.val,.val,.val,.rd 2,.val,.ext,.val,.rd 2,.val,.ext,.val,.val] fol (by decide) (by kernel_rfl) ?_
 simp only [push_cast,simprocAttr,U44]
 refine DCall.z (Jc6 c.hi _) ?_
 simp only [push_cast,simprocAttr,U44]
 refine DCall.z (Jc6 b.lo _) ?_
 simp only [push_cast,simprocAttr,U44]
 try (refine DCall.z (Jc6 c.lo _) ?_;simp only [push_cast,simprocAttr,U44])
 try (refine DCall.z (Jc6 b.hi _) ?_;simp only [push_cast,simprocAttr,U44])
 apply hK;clear hK
 apply AW.x rfl
 apply AW.z
 apply Ja6
 apply hK;clear hK
 refine AW.g U44 Z0 ?_
 apply hK;clear hK
 refine ARounds.s fun K hK=>?_
 refine AW.c 1 U44 Z0 ?_
 refine AW.ifT rfl ?_
 refine AW.q fun K hK=>?_
 apply AW.b
 refine AW.c 1 U44 Z0 ?_
 refine AW.q fun K hK=>?_
 refine AW.draw [.val,.rd 0,.val,.ext,.val,.rd 0,.val,.ext,.val,.val,.val,.rd 2,.val,.ext,.val,.rd 2,.val,.ext,.val,.val] fol (by decide) (by kernel_rfl) ?_
 simp only [push_cast,simprocAttr,U44]
 refine DCall.z (Jd5 c.hi _) ?_
 simp only [push_cast,simprocAttr,U44]
 refine DCall.z (Jd5 b.lo _) ?_
 simp only [push_cast,simprocAttr,U44]
 try (refine DCall.z (Jd5 c.lo _) ?_;simp only [push_cast,simprocAttr,U44])
 try (refine DCall.z (Jd5 b.hi _) ?_;simp only [push_cast,simprocAttr,U44])
 apply hK;clear hK
 apply AW.x rfl
 apply AW.z
 apply Ja6
 apply hK;clear hK
 refine AW.g U44 Z0 ?_
 apply hK;clear hK
 refine ARounds.s fun K hK=>?_
 refine AW.c 1 U44 Z0 ?_
 refine AW.ifT rfl ?_
 refine AW.q fun K hK=>?_
 apply AW.b
 refine AW.c 1 U44 Z0 ?_
 refine AW.q fun K hK=>?_
 refine AW.draw [.val,.rd 0,.val,.ext,.val,.rd 0,.val,.ext,.val,.val,.val,.rd 2,.val,.ext,.val,.rd 2,.val,.ext,.val,.val] fol (by decide) (by kernel_rfl) ?_
 simp only [push_cast,simprocAttr,U44]
 refine DCall.z (Jf6 c.hi _) ?_
 simp only [push_cast,simprocAttr,U44]
 refine DCall.z (Jf6 b.lo _) ?_
 simp only [push_cast,simprocAttr,U44]
 try (refine DCall.z (Jf6 c.lo _) ?_;simp only [push_cast,simprocAttr,U44])
 try (refine DCall.z (Jf6 b.hi _) ?_;simp only [push_cast,simprocAttr,U44])
 apply hK;clear hK
 apply AW.y rfl
 refine AW.c 1 U44 Z0 ?_
 exact AW.ret (hQ _ _ _ (RetP.z hwf U44))
theorem Vj4 (b c:BX)(m:Ja1)(g0:¬c.hi 0<b.lo 0)(g1:¬b.hi 0<c.lo 0)(g2:¬c.hi 1<b.lo 1)(g3:¬b.hi 1<c.lo 1)(g4:¬c.hi 2<b.lo 2)(g5:b.hi 2<c.lo 2):Ctr Tryz.prog 124 [.agg (bxC b),.agg (bxC c)] m (.one (.bool false)) m:=by
 refine Ctr.en Tryz.func124 [.tmp 4] 30 fun hwf Q hQ=>?_
 have U45:=ca4 @Je7 @Ja4 @decide_true (ca4 @decide_false g0 g1 (ca4 g2 g3 g4 g5))
 refine AW.c 1 U45 Z0 ?_
 refine AW.q fun K hK=>?_
 refine AW.c 1 U45 Z0 ?_
 apply AW.b
 refine AW.r 4 ?_
 refine ARounds.s fun K hK=>?_
 refine AW.c 1 U45 Z0 ?_
 refine AW.ifT rfl ?_
 refine AW.q fun K hK=>?_
 apply AW.b
 refine AW.c 1 U45 Z0 ?_
 refine AW.q fun K hK=>?_
 refine AW.draw [.val,.rd 0,.val,.ext,.val,.rd 0,.val,.ext,.val,.val,.val,.rd 2,.val,.ext,.val,.rd 2,.val,.ext,.val,.val] fol (by decide) (by kernel_rfl) ?_
 simp only [push_cast,simprocAttr,U45]
 refine DCall.z (Jc6 c.hi _) ?_
 simp only [push_cast,simprocAttr,U45]
 refine DCall.z (Jc6 b.lo _) ?_
 simp only [push_cast,simprocAttr,U45]
 try (refine DCall.z (Jc6 c.lo _) ?_;simp only [push_cast,simprocAttr,U45])
 try (refine DCall.z (Jc6 b.hi _) ?_;simp only [push_cast,simprocAttr,U45])
 apply hK;clear hK
 apply AW.x rfl
 apply AW.z
 apply Ja6
 apply hK;clear hK
 refine AW.g U45 Z0 ?_
 apply hK;clear hK
 refine ARounds.s fun K hK=>?_
 refine AW.c 1 U45 Z0 ?_
 refine AW.ifT rfl ?_
 refine AW.q fun K hK=>?_
 apply AW.b
 refine AW.c 1 U45 Z0 ?_
 refine AW.q fun K hK=>?_
 refine AW.draw [.val,.rd 0,.val,.ext,.val,.rd 0,.val,.ext,.val,.val,.val,.rd 2,.val,.ext,.val,.rd 2,.val,.ext,.val,.val] fol (by decide) (by kernel_rfl) ?_
 simp only [push_cast,simprocAttr,U45]
 refine DCall.z (Jd5 c.hi _) ?_
 simp only [push_cast,simprocAttr,U45]
 refine DCall.z (Jd5 b.lo _) ?_
 simp only [push_cast,simprocAttr,U45]
 try (refine DCall.z (Jd5 c.lo _) ?_;simp only [push_cast,simprocAttr,U45])
 try (refine DCall.z (Jd5 b.hi _) ?_;simp only [push_cast,simprocAttr,U45])
 apply hK;clear hK
 apply AW.x rfl
 apply AW.z
 apply Ja6
 apply hK;clear hK
 refine AW.g U45 Z0 ?_
 apply hK;clear hK
 refine ARounds.s fun K hK=>?_
 refine AW.c 1 U45 Z0 ?_
 refine AW.ifT rfl ?_
 refine AW.q fun K hK=>?_
 apply AW.b
 refine AW.c 1 U45 Z0 ?_
 refine AW.q fun K hK=>?_
 refine AW.draw [.val,.rd 0,.val,.ext,.val,.rd 0,.val,.ext,.val,.val,.val,.rd 2,.val,.ext,.val,.rd 2,.val,.ext,.val,.val] fol (by decide) (by kernel_rfl) ?_
 simp only [push_cast,simprocAttr,U45]
 refine DCall.z (Jf6 c.hi _) ?_
 simp only [push_cast,simprocAttr,U45]
 refine DCall.z (Jf6 b.lo _) ?_
 simp only [push_cast,simprocAttr,U45]
 try (refine DCall.z (Jf6 c.lo _) ?_;simp only [push_cast,simprocAttr,U45])
 try (refine DCall.z (Jf6 b.hi _) ?_;simp only [push_cast,simprocAttr,U45])
 apply hK;clear hK
 apply AW.y rfl
 refine AW.c 1 U45 Z0 ?_
 exact AW.ret (hQ _ _ _ (RetP.z hwf U45))
theorem Vj3 (b c:BX)(m:Ja1)(g0:¬c.hi 0<b.lo 0)(g1:¬b.hi 0<c.lo 0)(g2:¬c.hi 1<b.lo 1)(g3:¬b.hi 1<c.lo 1)(g4:¬c.hi 2<b.lo 2)(g5:¬b.hi 2<c.lo 2):Ctr Tryz.prog 124 [.agg (bxC b),.agg (bxC c)] m (.one (.bool true)) m:=by
 refine Ctr.en Tryz.func124 [.tmp 4] 30 fun hwf Q hQ=>?_
 have U46:=ca4 @Je7 @Ja4 @decide_true (ca4 @decide_false g0 g1 (ca4 g2 g3 g4 g5))
 refine AW.c 1 U46 Z0 ?_
 refine AW.q fun K hK=>?_
 refine AW.c 1 U46 Z0 ?_
 apply AW.b
 refine AW.r 4 ?_
 refine ARounds.s fun K hK=>?_
 refine AW.c 1 U46 Z0 ?_
 refine AW.ifT rfl ?_
 refine AW.q fun K hK=>?_
 apply AW.b
 refine AW.c 1 U46 Z0 ?_
 refine AW.q fun K hK=>?_
 refine AW.draw [.val,.rd 0,.val,.ext,.val,.rd 0,.val,.ext,.val,.val,.val,.rd 2,.val,.ext,.val,.rd 2,.val,.ext,.val,.val] fol (by decide) (by kernel_rfl) ?_
 simp only [push_cast,simprocAttr,U46]
 refine DCall.z (Jc6 c.hi _) ?_
 simp only [push_cast,simprocAttr,U46]
 refine DCall.z (Jc6 b.lo _) ?_
 simp only [push_cast,simprocAttr,U46]
 try (refine DCall.z (Jc6 c.lo _) ?_;simp only [push_cast,simprocAttr,U46])
 try (refine DCall.z (Jc6 b.hi _) ?_;simp only [push_cast,simprocAttr,U46])
 apply hK;clear hK
 apply AW.x rfl
 apply AW.z
 apply Ja6
 apply hK;clear hK
 refine AW.g U46 Z0 ?_
 apply hK;clear hK
 refine ARounds.s fun K hK=>?_
 refine AW.c 1 U46 Z0 ?_
 refine AW.ifT rfl ?_
 refine AW.q fun K hK=>?_
 apply AW.b
 refine AW.c 1 U46 Z0 ?_
 refine AW.q fun K hK=>?_
 refine AW.draw [.val,.rd 0,.val,.ext,.val,.rd 0,.val,.ext,.val,.val,.val,.rd 2,.val,.ext,.val,.rd 2,.val,.ext,.val,.val] fol (by decide) (by kernel_rfl) ?_
 simp only [push_cast,simprocAttr,U46]
 refine DCall.z (Jd5 c.hi _) ?_
 simp only [push_cast,simprocAttr,U46]
 refine DCall.z (Jd5 b.lo _) ?_
 simp only [push_cast,simprocAttr,U46]
 try (refine DCall.z (Jd5 c.lo _) ?_;simp only [push_cast,simprocAttr,U46])
 try (refine DCall.z (Jd5 b.hi _) ?_;simp only [push_cast,simprocAttr,U46])
 apply hK;clear hK
 apply AW.x rfl
 apply AW.z
 apply Ja6
 apply hK;clear hK
 refine AW.g U46 Z0 ?_
 apply hK;clear hK
 refine ARounds.s fun K hK=>?_
 refine AW.c 1 U46 Z0 ?_
 refine AW.ifT rfl ?_
 refine AW.q fun K hK=>?_
 apply AW.b
 refine AW.c 1 U46 Z0 ?_
 refine AW.q fun K hK=>?_
 refine AW.draw [.val,.rd 0,.val,.ext,.val,.rd 0,.val,.ext,.val,.val,.val,.rd 2,.val,.ext,.val,.rd 2,.val,.ext,.val,.val] fol (by decide) (by kernel_rfl) ?_
 simp only [push_cast,simprocAttr,U46]
 refine DCall.z (Jf6 c.hi _) ?_
 simp only [push_cast,simprocAttr,U46]
 refine DCall.z (Jf6 b.lo _) ?_
 simp only [push_cast,simprocAttr,U46]
 try (refine DCall.z (Jf6 c.lo _) ?_;simp only [push_cast,simprocAttr,U46])
 try (refine DCall.z (Jf6 b.hi _) ?_;simp only [push_cast,simprocAttr,U46])
 apply hK;clear hK
 apply AW.x rfl
 apply AW.z
 apply Ja6
 apply hK;clear hK
 refine AW.g U46 Z0 ?_
 apply hK;clear hK
 refine ARounds.s fun K hK=>?_
 refine AW.c 1 U46 Z0 ?_
 refine AW.q fun K hK=>?_
 apply AW.x rfl
 apply AW.v
 apply Jb0
 clear hK
 apply Jb0
 clear hK
 apply Ja5
 apply hK;clear hK
 refine AW.c 1 U46 Z0 ?_
 exact AW.ret (hQ _ _ _ (RetP.z hwf U46))
theorem Qz3 (b c:BX)(m:Ja1)(q:Bool)(hq:q=true↔Jt6 b c):Ctr Tryz.prog 124 [.agg (bxC b),.agg (bxC c)] m (.one (.bool q)) m:=by
 by_cases g0:c.hi 0<b.lo 0
 ·obtain rfl:q=false:=by
   cases q with
   | false=>rfl
   | true=>exact absurd g0 ((hq.1 rfl) 0 (by omega)).1
  exact Vj9 b c m g0
 by_cases g1:b.hi 0<c.lo 0
 ·obtain rfl:q=false:=by
   cases q with
   | false=>rfl
   | true=>exact absurd g1 ((hq.1 rfl) 0 (by omega)).2
  exact Vj8 b c m g0 g1
 by_cases g2:c.hi 1<b.lo 1
 ·obtain rfl:q=false:=by
   cases q with
   | false=>rfl
   | true=>exact absurd g2 ((hq.1 rfl) 1 (by omega)).1
  exact Vj7 b c m g0 g1 g2
 by_cases g3:b.hi 1<c.lo 1
 ·obtain rfl:q=false:=by
   cases q with
   | false=>rfl
   | true=>exact absurd g3 ((hq.1 rfl) 1 (by omega)).2
  exact Vj6 b c m g0 g1 g2 g3
 by_cases g4:c.hi 2<b.lo 2
 ·obtain rfl:q=false:=by
   cases q with
   | false=>rfl
   | true=>exact absurd g4 ((hq.1 rfl) 2 (by omega)).1
  exact Vj5 b c m g0 g1 g2 g3 g4
 by_cases g5:b.hi 2<c.lo 2
 ·obtain rfl:q=false:=by
   cases q with
   | false=>rfl
   | true=>exact absurd g5 ((hq.1 rfl) 2 (by omega)).2
  exact Vj4 b c m g0 g1 g2 g3 g4 g5
 obtain rfl:q=true:=hq.2 fun k hk=>by
  match k,hk with
  | 0,_=>exact ⟨g0,g1⟩
  | 1,_=>exact ⟨g2,g3⟩
  | 2,_=>exact ⟨g4,g5⟩
 exact Vj3 b c m g0 g1 g2 g3 g4 g5
theorem Xg2 (m:Ja1):Ctr Tryz.prog 180 [] m (.agg (bxC Ve3)) m:=by
 refine Ctr.en Tryz.func180 [.cell 0 232] 4 fun hwf Q hQ=>?_
 have hv:bxC Ve3=[.int .i64 (-2147483648),.int .i64 (-2147483648),.int .i64 (-2147483648),.int .i64 2147483648,.int .i64 2147483648,.int .i64 2147483648]:=rfl
 rw [hv] at hQ
 refine AW.c 2 Z0 Ky2 ?_
 exact AW.ret (hQ _ _ _ (RetP.z hwf Z0))
theorem Qz0 (M:MV)(m:Ja1)(h1:Kd0 (Jm6 M).a):Ctr Tryz.prog 101 [.agg (mvC M)] m (.agg (prC (Kd1 M))) m:=by
 refine Ctr.en Tryz.func101 [.cell 2 234] 42 fun hwf Q hQ=>?_
 have hv:Kd1 M=⟨Ve3,Ve3⟩:=by unfold Kd1;rw [if_pos (.inl h1)]
 rw [hv] at hQ
 have hp:Jm6 M=⟨Jc7 M.A,Jc7 ⟨M.A.kind,M.B.paint,M.B.P,M.B.r⟩⟩:=rfl
 have U1:=ca4 @Kp0 @Jq5 @Kf9 (ca2 @Je7 @Ja4)
 refine AW.c 2 U1 Z0 ?_
 refine AW.d [.val,.rd 0,.ext,.val,.rd 0,.ext,.val,.fl,.wr] fol U1 (ca2 (Jp5 M.A) (Jp5 ⟨M.A.kind,M.B.paint,M.B.P,M.B.r⟩)) ?_
 refine AW.d [.val,.val,.rd 0,.ext,.val,.val,.rd 0,.ext,.val,.val] fol U1 Jy7 ?_
 refine AW.q fun K hK=>?_
 refine AW.sr 1 fun K hK=>?_
 simp only [push_cast,simprocAttr,U1]
 refine CThen.by (Kn0 (Jc7 M.A) _ true ⟨fun _=>h1,fun _=>rfl⟩) ?_
 simp only [push_cast,simprocAttr,U1]
 apply hK;clear hK
 apply AW.y rfl
 refine AW.c 1 U1 Xg2 ?_
 exact AW.ret (hQ _ _ _ (RetP.z hwf Z0))
theorem Qy9 (M:MV)(m:Ja1)(h1:¬Kd0 (Jm6 M).a)(h2:Kd0 (Jm6 M).b):Ctr Tryz.prog 101 [.agg (mvC M)] m (.agg (prC (Kd1 M))) m:=by
 refine Ctr.en Tryz.func101 [.cell 2 234] 42 fun hwf Q hQ=>?_
 have hv:Kd1 M=⟨Ve3,Ve3⟩:=by unfold Kd1;rw [if_pos (.inr (.inl h2))]
 rw [hv] at hQ
 have hp:Jm6 M=⟨Jc7 M.A,Jc7 ⟨M.A.kind,M.B.paint,M.B.P,M.B.r⟩⟩:=rfl
 have U2:=ca4 @Kp0 @Jq5 @Kf9 (ca2 @Je7 @Ja4)
 refine AW.c 2 U2 Z0 ?_
 refine AW.d [.val,.rd 0,.ext,.val,.rd 0,.ext,.val,.fl,.wr] fol U2 (ca2 (Jp5 M.A) (Jp5 ⟨M.A.kind,M.B.paint,M.B.P,M.B.r⟩)) ?_
 refine AW.d [.val,.val,.rd 0,.ext,.val,.val,.rd 0,.ext,.val,.val] fol U2 Jy7 ?_
 refine AW.q fun K hK=>?_
 refine AW.c 1 U2 (ca2 (Kn0 (Jc7 M.A) _ false ⟨fun h=>(by cases h),fun h=>absurd h h1⟩) (Kn0 (Jc7 ⟨M.A.kind,M.B.paint,M.B.P,M.B.r⟩) _ true ⟨fun _=>h2,fun _=>rfl⟩)) ?_
 apply AW.y rfl
 refine AW.c 1 U2 Xg2 ?_
 exact AW.ret (hQ _ _ _ (RetP.z hwf Z0))
theorem Qy8 (M:MV)(m:Ja1)(h1:¬Kd0 (Jm6 M).a)(h2:¬Kd0 (Jm6 M).b)(h3:2147483648<=maxI (Jd6 M.A.r 8192) (Jd6 M.B.r 8192)):Ctr Tryz.prog 101 [.agg (mvC M)] m (.agg (prC (Kd1 M))) m:=by
 refine Ctr.en Tryz.func101 [.cell 2 234] 42 fun hwf Q hQ=>?_
 have hv:Kd1 M=⟨Ve3,Ve3⟩:=by unfold Kd1;rw [if_pos (.inr (.inr h3))]
 rw [hv] at hQ
 have hp:Jm6 M=⟨Jc7 M.A,Jc7 ⟨M.A.kind,M.B.paint,M.B.P,M.B.r⟩⟩:=rfl
 have U3:=ca4 @Kp0 @Jq5 @Kf9 (ca4 @Je7 @Ja4 h3 (ca2 @decide_true @decide_false))
 refine AW.c 2 U3 Z0 ?_
 refine AW.d [.val,.rd 0,.ext,.val,.rd 0,.ext,.val,.fl,.wr] fol U3 (ca2 (Jp5 M.A) (Jp5 ⟨M.A.kind,M.B.paint,M.B.P,M.B.r⟩)) ?_
 refine AW.d [.val,.val,.rd 0,.ext,.val,.val,.rd 0,.ext,.val,.val] fol U3 Jy7 ?_
 refine AW.q fun K hK=>?_
 refine AW.c 1 U3 (ca2 (Kn0 (Jc7 M.A) _ false ⟨fun h=>(by cases h),fun h=>absurd h h1⟩) (Kn0 (Jc7 ⟨M.A.kind,M.B.paint,M.B.P,M.B.r⟩) _ false ⟨fun h=>(by cases h),fun h=>absurd h h2⟩)) ?_
 apply AW.y rfl
 refine AW.c 1 U3 Xg2 ?_
 exact AW.ret (hQ _ _ _ (RetP.z hwf Z0))
theorem Qy7 (M:MV)(m:Ja1)(h1:¬Kd0 (Jm6 M).a)(h2:¬Kd0 (Jm6 M).b)(h3:¬2147483648<=maxI (Jd6 M.A.r 8192) (Jd6 M.B.r 8192)):Ctr Tryz.prog 101 [.agg (mvC M)] m (.agg (prC (Kd1 M))) m:=by
 refine Ctr.en Tryz.func101 [.cell 2 234] 42 fun hwf Q hQ=>?_
 have hv:Kd1 M=Jm6 M:=by unfold Kd1;rw [if_neg (show ¬badM M from fun h=>h.elim h1 fun h=>h.elim h2 h3)]
 rw [hv] at hQ
 have hp:Jm6 M=⟨Jc7 M.A,Jc7 ⟨M.A.kind,M.B.paint,M.B.P,M.B.r⟩⟩:=rfl
 rw [hp] at hQ
 have U4:=ca4 @Kp0 @Jq5 @Kf9 (ca4 @Je7 @Ja4 h3 (ca2 @decide_true @decide_false))
 refine AW.c 2 U4 Z0 ?_
 refine AW.d [.val,.rd 0,.ext,.val,.rd 0,.ext,.val,.fl,.wr] fol U4 (ca2 (Jp5 M.A) (Jp5 ⟨M.A.kind,M.B.paint,M.B.P,M.B.r⟩)) ?_
 refine AW.d [.val,.val,.rd 0,.ext,.val,.val,.rd 0,.ext,.val,.val] fol U4 Jy7 ?_
 refine AW.q fun K hK=>?_
 refine AW.c 1 U4 (ca2 (Kn0 (Jc7 M.A) _ false ⟨fun h=>(by cases h),fun h=>absurd h h1⟩) (Kn0 (Jc7 ⟨M.A.kind,M.B.paint,M.B.P,M.B.r⟩) _ false ⟨fun h=>(by cases h),fun h=>absurd h h2⟩)) ?_
 apply AW.x rfl
 apply AW.z
 apply hK;clear hK
 refine AW.c 1 U4 Z0 ?_
 exact AW.ret (hQ _ _ _ (RetP.z hwf Z0))
theorem Vi9 (M:MV)(m:Ja1):Ctr Tryz.prog 101 [.agg (mvC M)] m (.agg (prC (Kd1 M))) m:=by
 by_cases h1:Kd0 (Jm6 M).a
 ·exact Qz0 M m h1
 by_cases h2:Kd0 (Jm6 M).b
 ·exact Qy9 M m h1 h2
 by_cases h3:2147483648<=maxI (Jd6 M.A.r 8192) (Jd6 M.B.r 8192)
 ·exact Qy8 M m h1 h2 h3
 exact Qy7 M m h1 h2 h3
theorem Qs1 (a:V)(k:Nat)(hk:k<3)(m:Ja1):Ctr Tryz.prog 175 [.agg (c3C a),.one (.int .i64 ((k:Int)))] m (.one (.int .i64 (a k))) m :=
 match k,hk with
 | 0,_=>Jc6 a m
 | 1,_=>Jd5 a m
 | 2,_=>Jf6 a m
theorem Qr6 (v:V)(m:Ja1)(g1:¬Jj1 (v 0)<Jj1 (v 1))(g2:¬Jj1 (v 0)<Jj1 (v 2)):Ctr Tryz.prog 253 [.agg (c3C v)] m (.one (.int .i64 ((Jh3 v:Int)))) m:=by
 refine Ctr.en Tryz.func253 [.tmp 2] 20 fun hwf Q hQ=>?_
 have hv:Jh3 v=0:=by unfold Jh3 Jz0;rw [if_neg g1];exact if_neg g2
 rw [hv] at hQ
 have U1:=ca4 @Ja4 g1 g2 (ca2 @decide_true @decide_false)
 refine AW.c 2 U1 Z0 ?_
 refine AW.q fun K hK=>?_
 refine AW.c 1 U1 Z0 ?_
 apply AW.b
 refine AW.r 3 ?_
 refine ARounds.s fun K hK=>?_
 refine AW.q fun K hK=>?_
 refine AW.c 1 U1 Z0 ?_
 apply AW.y rfl
 apply AW.z
 apply hK;clear hK
 refine AW.q fun K hK=>?_
 apply AW.b
 refine AW.d [.rd 0,.val,.ext,.ext,.rd 0,.val,.ext,.ext,.val] fol U1 (ca3 (Jd5 v) Jj0 (Jc6 v)) ?_
 apply AW.x rfl
 apply AW.z
 apply Ja6
 apply hK;clear hK
 refine AW.g U1 Z0 ?_
 apply hK;clear hK
 refine ARounds.s fun K hK=>?_
 refine AW.q fun K hK=>?_
 refine AW.c 1 U1 Z0 ?_
 apply AW.y rfl
 apply AW.z
 apply hK;clear hK
 refine AW.q fun K hK=>?_
 apply AW.b
 refine AW.d [.rd 0,.val,.ext,.ext,.rd 0,.val,.ext,.ext,.val] fol U1 (ca3 (Jf6 v) Jj0 (Jc6 v)) ?_
 apply AW.x rfl
 apply AW.z
 apply Ja6
 apply hK;clear hK
 refine AW.g U1 Z0 ?_
 apply hK;clear hK
 refine ARounds.s fun K hK=>?_
 refine AW.q fun K hK=>?_
 refine AW.c 1 U1 Z0 ?_
 apply AW.x rfl
 apply AW.v
 apply Jb0
 clear hK
 apply Jb0
 clear hK
 apply Ja5
 apply hK;clear hK
 refine AW.c 1 U1 Z0 ?_
 exact AW.ret (hQ _ _ _ (RetP.z hwf U1))
theorem Qr5 (v:V)(m:Ja1)(g1:¬Jj1 (v 0)<Jj1 (v 1))(g2:Jj1 (v 0)<Jj1 (v 2)):Ctr Tryz.prog 253 [.agg (c3C v)] m (.one (.int .i64 ((Jh3 v:Int)))) m:=by
 refine Ctr.en Tryz.func253 [.tmp 2] 20 fun hwf Q hQ=>?_
 have hv:Jh3 v=2:=by unfold Jh3 Jz0;rw [if_neg g1];exact if_pos g2
 rw [hv] at hQ
 have U2:=ca4 @Ja4 g1 g2 (ca2 @decide_true @decide_false)
 refine AW.c 2 U2 Z0 ?_
 refine AW.q fun K hK=>?_
 refine AW.c 1 U2 Z0 ?_
 apply AW.b
 refine AW.r 3 ?_
 refine ARounds.s fun K hK=>?_
 refine AW.q fun K hK=>?_
 refine AW.c 1 U2 Z0 ?_
 apply AW.y rfl
 apply AW.z
 apply hK;clear hK
 refine AW.q fun K hK=>?_
 apply AW.b
 refine AW.d [.rd 0,.val,.ext,.ext,.rd 0,.val,.ext,.ext,.val] fol U2 (ca3 (Jd5 v) Jj0 (Jc6 v)) ?_
 apply AW.x rfl
 apply AW.z
 apply Ja6
 apply hK;clear hK
 refine AW.g U2 Z0 ?_
 apply hK;clear hK
 refine ARounds.s fun K hK=>?_
 refine AW.q fun K hK=>?_
 refine AW.c 1 U2 Z0 ?_
 apply AW.y rfl
 apply AW.z
 apply hK;clear hK
 refine AW.q fun K hK=>?_
 apply AW.b
 refine AW.d [.rd 0,.val,.ext,.ext,.rd 0,.val,.ext,.ext,.val] fol U2 (ca3 (Jf6 v) Jj0 (Jc6 v)) ?_
 apply AW.y rfl
 refine AW.g U2 Z0 ?_
 apply Ja6
 apply hK;clear hK
 refine AW.g U2 Z0 ?_
 apply hK;clear hK
 refine ARounds.s fun K hK=>?_
 refine AW.q fun K hK=>?_
 refine AW.c 1 U2 Z0 ?_
 apply AW.x rfl
 apply AW.v
 apply Jb0
 clear hK
 apply Jb0
 clear hK
 apply Ja5
 apply hK;clear hK
 refine AW.c 1 U2 Z0 ?_
 exact AW.ret (hQ _ _ _ (RetP.z hwf U2))
theorem Qr4 (v:V)(m:Ja1)(g1:Jj1 (v 0)<Jj1 (v 1))(g2:¬Jj1 (v 1)<Jj1 (v 2)):Ctr Tryz.prog 253 [.agg (c3C v)] m (.one (.int .i64 ((Jh3 v:Int)))) m:=by
 refine Ctr.en Tryz.func253 [.tmp 2] 20 fun hwf Q hQ=>?_
 have hv:Jh3 v=1:=by unfold Jh3 Jz0;rw [if_pos g1];exact if_neg g2
 rw [hv] at hQ
 have U3:=ca4 @Ja4 g1 g2 (ca2 @decide_true @decide_false)
 refine AW.c 2 U3 Z0 ?_
 refine AW.q fun K hK=>?_
 refine AW.c 1 U3 Z0 ?_
 apply AW.b
 refine AW.r 3 ?_
 refine ARounds.s fun K hK=>?_
 refine AW.q fun K hK=>?_
 refine AW.c 1 U3 Z0 ?_
 apply AW.y rfl
 apply AW.z
 apply hK;clear hK
 refine AW.q fun K hK=>?_
 apply AW.b
 refine AW.d [.rd 0,.val,.ext,.ext,.rd 0,.val,.ext,.ext,.val] fol U3 (ca3 (Jd5 v) Jj0 (Jc6 v)) ?_
 apply AW.y rfl
 refine AW.g U3 Z0 ?_
 apply Ja6
 apply hK;clear hK
 refine AW.g U3 Z0 ?_
 apply hK;clear hK
 refine ARounds.s fun K hK=>?_
 refine AW.q fun K hK=>?_
 refine AW.c 1 U3 Z0 ?_
 apply AW.y rfl
 apply AW.z
 apply hK;clear hK
 refine AW.q fun K hK=>?_
 apply AW.b
 refine AW.d [.rd 0,.val,.ext,.ext,.rd 0,.val,.ext,.ext,.val] fol U3 (ca3 (Jf6 v) Jj0 (Jd5 v)) ?_
 apply AW.x rfl
 apply AW.z
 apply Ja6
 apply hK;clear hK
 refine AW.g U3 Z0 ?_
 apply hK;clear hK
 refine ARounds.s fun K hK=>?_
 refine AW.q fun K hK=>?_
 refine AW.c 1 U3 Z0 ?_
 apply AW.x rfl
 apply AW.v
 apply Jb0
 clear hK
 apply Jb0
 clear hK
 apply Ja5
 apply hK;clear hK
 refine AW.c 1 U3 Z0 ?_
 exact AW.ret (hQ _ _ _ (RetP.z hwf U3))
theorem Qr3 (v:V)(m:Ja1)(g1:Jj1 (v 0)<Jj1 (v 1))(g2:Jj1 (v 1)<Jj1 (v 2)):Ctr Tryz.prog 253 [.agg (c3C v)] m (.one (.int .i64 ((Jh3 v:Int)))) m:=by
 refine Ctr.en Tryz.func253 [.tmp 2] 20 fun hwf Q hQ=>?_
 have hv:Jh3 v=2:=by unfold Jh3 Jz0;rw [if_pos g1];exact if_pos g2
 rw [hv] at hQ
 have U4:=ca4 @Ja4 g1 g2 (ca2 @decide_true @decide_false)
 refine AW.c 2 U4 Z0 ?_
 refine AW.q fun K hK=>?_
 refine AW.c 1 U4 Z0 ?_
 apply AW.b
 refine AW.r 3 ?_
 refine ARounds.s fun K hK=>?_
 refine AW.q fun K hK=>?_
 refine AW.c 1 U4 Z0 ?_
 apply AW.y rfl
 apply AW.z
 apply hK;clear hK
 refine AW.q fun K hK=>?_
 apply AW.b
 refine AW.d [.rd 0,.val,.ext,.ext,.rd 0,.val,.ext,.ext,.val] fol U4 (ca3 (Jd5 v) Jj0 (Jc6 v)) ?_
 apply AW.y rfl
 refine AW.g U4 Z0 ?_
 apply Ja6
 apply hK;clear hK
 refine AW.g U4 Z0 ?_
 apply hK;clear hK
 refine ARounds.s fun K hK=>?_
 refine AW.q fun K hK=>?_
 refine AW.c 1 U4 Z0 ?_
 apply AW.y rfl
 apply AW.z
 apply hK;clear hK
 refine AW.q fun K hK=>?_
 apply AW.b
 refine AW.d [.rd 0,.val,.ext,.ext,.rd 0,.val,.ext,.ext,.val] fol U4 (ca3 (Jf6 v) Jj0 (Jd5 v)) ?_
 apply AW.y rfl
 refine AW.g U4 Z0 ?_
 apply Ja6
 apply hK;clear hK
 refine AW.g U4 Z0 ?_
 apply hK;clear hK
 refine ARounds.s fun K hK=>?_
 refine AW.q fun K hK=>?_
 refine AW.c 1 U4 Z0 ?_
 apply AW.x rfl
 apply AW.v
 apply Jb0
 clear hK
 apply Jb0
 clear hK
 apply Ja5
 apply hK;clear hK
 refine AW.c 1 U4 Z0 ?_
 exact AW.ret (hQ _ _ _ (RetP.z hwf U4))
theorem Qe9 (v:V)(m:Ja1):Ctr Tryz.prog 253 [.agg (c3C v)] m (.one (.int .i64 ((Jh3 v:Int)))) m:=by
 by_cases g1:Jj1 (v 0)<Jj1 (v 1)
 ·by_cases g2:Jj1 (v 1)<Jj1 (v 2)
  ·exact Qr3 v m g1 g2
  exact Qr4 v m g1 g2
 by_cases g2:Jj1 (v 0)<Jj1 (v 2)
 ·exact Qr5 v m g1 g2
 exact Qr6 v m g1 g2
theorem Xi7 (x low wide:Int)(m:Ja1):Ctr Tryz.prog 254 [.one (.int .i64 x),.one (.int .i64 low),.one (.int .i64 wide)] m (.one (.int .i64 (binI x low wide))) m:=by
 refine Ctr.en Tryz.func254 [.tmp 6] 15 fun hwf Q hQ=>?_
 have hv:binI x low wide=minI (Ja2 (Jd8 524288 (Jh1 (Jf5 x low) wide)) / 65536) 7:=rfl
 rw [hv] at hQ
 refine AW.c 2 Z0 (ca4 Jr8 Jq8 Jm2 Vt7) ?_
 exact AW.ret (hQ _ _ _ (RetP.z hwf Z0))
structure IdsAt (m:Ja1)(r v a:Nat)(l:List Nat)(N:Nat):Prop where
 hb:∃ k ez cs,m[r]?=some ⟨k,3,v,ez,cs⟩/\a+l.length<=cs.length/\∀ i,i<l.length->cs[a+i]?=some (.int .i64 ((l.getD i 0:Nat):Int))
 lt:∀ i,i<l.length->l.getD i 0<N
 n:l.length<=128
theorem IdsAt.app {m:Ja1}{r v a:Nat}{l:List Nat}{N:Nat}(h:IdsAt m r v a l N)(L:Ja1):IdsAt (m++L) r v a l N:=⟨by obtain ⟨k,ez,cs,h1,h2⟩:=h.hb;exact ⟨k,ez,cs,Ja8 h1 L,h2⟩,h.lt,h.n⟩
def prF (prs:Nat->PR)(i:Nat):List CV:=prC (prs i)
structure MkAt (m:Ja1)(w:Nat)(c0 c1:CV)(pb pv N mb mv:Nat)(prs:Nat->PR)(mid:Nat->V):Prop where
 hw:m[w]?=some ⟨.fix,314,0,0,[c0,c1,.sl pb pv 0 N,.sl mb mv 0 N]⟩
 hp:∃ k ez,m[pb]?=some ⟨k,234,pv,ez,Jb6 N (prF prs)⟩
 hm:∃ k ez,m[mb]?=some ⟨k,59,mv,ez,Jb6 N (vF mid)⟩
 n:N<=128
theorem MkAt.app {m:Ja1}{w:Nat}{c0 c1:CV}{pb pv N mb mv:Nat}{prs:Nat->PR}{mid:Nat->V}(h:MkAt m w c0 c1 pb pv N mb mv prs mid)(L:Ja1):MkAt (m++L) w c0 c1 pb pv N mb mv prs mid:=⟨Ja8 h.hw L,by obtain ⟨k,e,h1⟩:=h.hp;exact ⟨k,e,Ja8 h1 L⟩,by obtain ⟨k,e,h1⟩:=h.hm;exact ⟨k,e,Ja8 h1 L⟩,h.n⟩
theorem Qe2 (prs:Nat->PR)(l:List Nat){i:Nat}(h:i+1<l.length):Jc3 prs (l.take (i+1+1))=Qa3 (Jc3 prs (l.take (i+1))) (prs (l.getD (i+1) 0)):=by
 match l,h with
 | x::t,h =>
  have h:i<t.length:=by simpa using h
  have e:t.take (i+1)=t.take i++[t.getD i 0]:=by rw [List.take_add_one,List.getD_eq_getElem?_getD,List.getElem?_eq_getElem h];rfl
  show List.foldl _ _ (t.take (i+1))=Qa3 (List.foldl _ _ (t.take i)) (prs (t.getD i 0))
  rw [e,List.foldl_append];rfl
theorem Qf6 (b:BX):-2147483648<=Kw2 b/\Kw2 b<=2147483648:=Jc8 _
theorem Kh9 (w:Nat)(c0 c1:CV)(pb pv N mb mv:Nat)(prs:Nat->PR)(mid:Nat->V)(r v a:Nat)(l:List Nat)(m:Ja1)(hM:MkAt m w c0 c1 pb pv N mb mv prs mid)(hI:IdsAt m r v a l N)(h0:0<l.length):Ctr Tryz.prog 227 [.one (.ptr w 0 0),.one (.sl r v a l.length)] m (.agg (prC (Jc3 prs l))) m:=by
 refine Ctr.en Tryz.func227 [.cell 4 234] 36 fun hwf Q hQ=>?_
 have hw:=hM.hw
 obtain ⟨kp,ep,hp⟩:=hM.hp
 obtain ⟨ki,ei,cs,hb,hcl,hcs⟩:=hI.hb
 have lw:=Jb4 hw
 have lp:=Jb4 hp
 have lb:=Jb4 hb
 have hn:=hI.n
 have hN:=hM.n
 have pl:(Jb6 N (prF prs)).length=N*12:=Ja9 (w:=12) (F:=prF prs) (fun _=>rfl) _
 have z1:cs[a]?=some (.int .i64 ((l.getD 0 0:Nat):Int)):=hcs 0 h0
 have y0:l.getD 0 0<N:=hI.lt 0 h0
 obtain ⟨x0,hx0⟩:∃ x,x=l.getD 0 0:=⟨_,rfl⟩
 rw [<-hx0] at z1 y0
 have y1:(0:Int)<=(x0:Int):=by omega
 have y2:(x0:Int)<(N:Int):=by omega
 have y3:x0*12+12<=N*12:=by omega
 have ga0:=Jc0 (w:=12) (F:=prF prs) (fun _=>rfl) y0
 have gx0:prF prs x0=[.int .i64 ((prs x0).a.lo 0),.int .i64 ((prs x0).a.lo 1),.int .i64 ((prs x0).a.lo 2),.int .i64 ((prs x0).a.hi 0),.int .i64 ((prs x0).a.hi 1),.int .i64 ((prs x0).a.hi 2),.int .i64 ((prs x0).b.lo 0),.int .i64 ((prs x0).b.lo 1),.int .i64 ((prs x0).b.lo 2),.int .i64 ((prs x0).b.hi 0),.int .i64 ((prs x0).b.hi 1),.int .i64 ((prs x0).b.hi 2)]:=rfl
 have n1:1<=l.length:=h0
 have n2:(0:Int)<(l.length:Int):=by omega
 have n3:(1:Int)<=(l.length:Int):=by omega
 have n4:(l.length:Int)<=(l.length:Int):=Int.le_refl _
 have ha1:Jc3 prs (l.take (0+1))=prs x0:=by
   match l,h0,hx0 with
   | x::t,_,e=>subst e;rfl
 have hlt0:∀ k,¬m.length+k<m.length:=fun k=>by omega
 have U5:=ca4 hw (Ja8 hw) hp (ca4 (Ja8 hp) hb (Ja8 hb) (ca4 pl z1 y1 (ca4 y2 y3 ga0 (ca4 gx0 n1 n2 (ca2 n3 n4)))))
 refine AW.c 1 U5 Z0 ?_
 refine AW.d [.val,.val,.val,.rd 0,.val,.val,.rd 0,.val,.rd 0,.ext,.wr] fol U5 Z0 ?_
 refine AW.q fun K hK=>?_
 refine AW.c 1 U5 Z0 ?_
 apply AW.b
 refine AW.loopK [0,4,5,18,19] (fun i=>i+1<=l.length) (fun i=>[(20,.one (.int .i64 (i:Int)))]) (fun i=>[(m.length+1,⟨.fix,234,0,0,prC (Jc3 prs (l.take (i+1)))⟩)]) (fun i=>l.length - i) 0 (by omega) ?_ ?_ fun i hi2=>?_
 · first|rfl|(simp only [KS,simprocAttr,Int.natCast_zero,ha1,prC,bxC,c3C]<;>repeat' (first|rfl|apply And.intro))
 · first|rfl|(simp only [Ja3,push_cast,simprocAttr,U5,Int.natCast_zero,ha1,prC,bxC,c3C]<;>rfl)
 try simp only [Jb2,Ja3,push_cast,simprocAttr,U5]
 refine AW.c 1 U5 Z0 ?_
 refine AW.q fun K hK=>?_
 refine AW.cond rfl (fun h21=>?_) (fun h21=>?_)
 ·have hlt:i+1<l.length:=by have:=of_decide_eq_true h21;omega
  have hcx:cs[a+(1+i)]?=some (.int .i64 ((l.getD (i+1) 0:Nat):Int)):=by rw [show 1+i=i+1 by omega];exact hcs (i+1) hlt
  have hcy:cs[a+(i+1)]?=some (.int .i64 ((l.getD (i+1) 0:Nat):Int)):=hcs (i+1) hlt
  have hstep:=Qe2 prs l hlt
  have x1:l.getD (i+1) 0<N:=hI.lt _ hlt
  obtain ⟨x,hx⟩:∃ x,x=l.getD (i+1) 0:=⟨_,rfl⟩
  rw [<-hx] at hcx hcy x1 hstep
  obtain ⟨Z,hZ⟩:∃ Z,Z=Jc3 prs (l.take (i+1)):=⟨_,rfl⟩
  rw [<-hZ] at hstep
  have x2:(0:Int)<=(x:Int):=by omega
  have x3:(x:Int)<(N:Int):=by omega
  have x4:x*12+12<=N*12:=by omega
  have gax:=Jc0 (w:=12) (F:=prF prs) (fun _=>rfl) x1
  have gxx:prF prs x=[.int .i64 ((prs x).a.lo 0),.int .i64 ((prs x).a.lo 1),.int .i64 ((prs x).a.lo 2),.int .i64 ((prs x).a.hi 0),.int .i64 ((prs x).a.hi 1),.int .i64 ((prs x).a.hi 2),.int .i64 ((prs x).b.lo 0),.int .i64 ((prs x).b.lo 1),.int .i64 ((prs x).b.lo 2),.int .i64 ((prs x).b.hi 0),.int .i64 ((prs x).b.hi 1),.int .i64 ((prs x).b.hi 2)]:=rfl
  have c1:(0:Int)<=(i:Int):=by omega
  have c2:(i:Int)<((l.length - 1:Nat):Int):=by omega
  have c4:(i:Int)<(l.length:Int) - 1:=by omega
  have c5:i<l.length - 1:=by omega
  apply AW.z
  apply hK;clear hK
  refine AW.q fun K hK=>?_
  apply AW.b
  have U6:=ca4 U5 hcx hcy (ca4 x2 x3 x4 (ca4 gax gxx c1 (ca4 c2 c4 c5 (ca4 @Kf9 @Je7 @Ja4 hZ.symm))))
  refine AW.c 1 U6 Z0 ?_
  refine AW.draw [.rd 0,.val,.val,.val,.rd 0,.val,.val,.rd 0,.ext,.ext,.wr] fol (by decide) (by kernel_rfl) ?_
  simp only [push_cast,simprocAttr,U6]
  refine DExt.by (by first|rfl|exact (List.append_nil _).symm|(simp only [List.append_assoc,List.cons_append,List.nil_append];rfl)) ?_
  simp only [push_cast,simprocAttr,U6]
  refine DCall.z (Xs0 Z (prs x) _ 0 _ ⟨.grow,12,by simp only [push_cast,simprocAttr];rfl⟩) ?_
  simp only [push_cast,simprocAttr,U6]
  apply Ja6
  apply hK;clear hK
  refine AW.g U6 Z0 ?_
  apply Jc1
  have hwi:IntKind.i64.wrap ((i:Int)+1)=(i:Int)+1:=wi (by omega)
  refine ⟨i+1,by omega,by omega,?_⟩
  try simp only [Jb2,Ja3,push_cast,simprocAttr,U6,hwi,hstep]
  exact Weak.to (extra:=_) (by simp only [KS,simprocAttr,hwi,hstep]) (by first|rfl|(simp only [List.append_assoc,List.cons_append,List.nil_append];rfl)) (by first|rfl|(simp [AV.below,CV.below];done)|(simp [AV.below,CV.below];omega)) (by
    first|exact hwf|refine MWf.app (hwf.grow (by simp)) ?_
    repeat (first|exact Jb8|(refine Ja0 ?_ ?_;· first|rfl|(simp [CV.below];done)|(simp [CV.below];omega))))
 have hin:i+1=l.length:=by have:=of_decide_eq_false h21;omega
 have hfin:Jc3 prs (l.take (i+1))=Jc3 prs l:=by rw [hin,List.take_length]
 rw [hfin]
 apply AW.v
 apply Jb0
 clear hK
 apply Jb0
 apply Ja5
 apply hK;clear hK
 have U7:=ca4 U5 @Kf9 @Je7 @Ja4
 refine AW.c 1 U7 Z0 ?_
 exact AW.ret (hQ _ _ _ (RetP.z hwf Z0))
theorem Qs9 (w:Nat)(c0 c1:CV)(pb pv N mb mv:Nat)(prs:Nat->PR)(mid:Nat->V)(r v a:Nat)(l:List Nat)(m:Ja1)(hM:MkAt m w c0 c1 pb pv N mb mv prs mid)(hI:IdsAt m r v a l N)(h0:0<l.length):Ctr Tryz.prog 255 [.one (.ptr w 0 0),.one (.sl r v a l.length)] m (.one (.int .i64 (Jo8 prs l))) m:=by
 refine Ctr.en Tryz.func255 [.tmp 4] 13 fun hwf Q hQ=>?_
 have hv:Jo8 prs l=(l.length:Int)*Kw2 (Jp7 (Jc3 prs l)):=rfl
 rw [hv] at hQ
 have hn:=hI.n
 have hsb:=Qf6 (Jp7 (Jc3 prs l))
 have hwr:IntKind.i64.wrap ((l.length:Int)*Kw2 (Jp7 (Jc3 prs l)))=(l.length:Int)*Kw2 (Jp7 (Jc3 prs l)):=wi (by have q1:=Int.mul_le_mul_of_nonneg_left hsb.1 (show 0<=(l.length:Int) by omega);have q2:=Int.mul_le_mul_of_nonneg_left hsb.2 (show 0<=(l.length:Int) by omega);omega)
 refine AW.c 2 hwr (ca3 (Kh9 w c0 c1 pb pv N mb mv prs mid r v a l _ hM hI h0) (Qg9 (Jc3 prs l)) (Xj2 (Jp7 (Jc3 prs l)))) ?_
 exact AW.ret (hQ _ _ _ (RetP.z hwf hwr))
def iC (l:List Nat):List CV:=l.map fun (i:Nat)=>CV.int .i64 (i:Int)
theorem Jg5 (l:List Nat):(iC l).length=l.length:=List.length_map _
theorem Jw8 (l:List Nat)(x:Nat):iC l++[.int .i64 (x:Int)]=iC (l++[x]):=by unfold iC;rw [List.map_append];rfl
theorem Kq7 (a b:List Nat):iC a++iC b=iC (a++b):=by unfold iC;rw [List.map_append]
theorem Km1 {l:List Nat}{i:Nat}(h:i<l.length):(iC l)[i]?=some (.int .i64 ((l.getD i 0:Nat):Int)):=by
 unfold iC;rw [List.getElem?_map,List.getD_eq_getElem?_getD,List.getElem?_eq_getElem h];rfl
theorem Qi3 (l:List Nat):(iC l).all CV.isVal=true:=by unfold iC;rw [List.all_map];exact List.all_eq_true.2 fun _ _=>rfl
theorem Jg6 (l:List Nat)(n:Nat):(iC l).all (CV.below n)=true:=by unfold iC;rw [List.all_map];exact List.all_eq_true.2 fun _ _=>rfl
theorem Jw1 {o:List Nat}{a b i:Nat}(h:a+i<b):(Jk3 o a b).getD i 0=o.getD (a+i) 0:=by
 rw [List.getD_eq_getElem?_getD,List.getD_eq_getElem?_getD]
 have:=Kb1 (o:=o) (a:=a) (b:=b) (x:=a+i) (by omega) h
 rw [Nat.add_sub_cancel_left] at this;rw [this]
theorem Kr6 {m:Ja1}{r v N:Nat}{o:List Nat}{a b:Nat}(hb:∃ k ez,m[r]?=some ⟨k,3,v,ez,iC o⟩)(h1:a<=b)(h2:b<=o.length)(ho:∀ x,x<o.length->o.getD x 0<N)(hn:o.length<=128):IdsAt m r v a (Jk3 o a b) N where
 hb:=by
  obtain ⟨k,ez,h⟩:=hb
  have e:=Jf2 (a:=a) h2
  refine ⟨k,ez,iC o,h,by rw [Jg5];omega,fun i hi=>?_⟩
  rw [Jw1 (by omega),Km1 (by omega)]
 lt:=fun i hi=>by rw [Jw1 (by rw [Jf2 h2] at hi;omega)];exact ho _ (by rw [Jf2 h2] at hi;omega)
 n:=by rw [Jf2 h2];omega
theorem Qj3 {m:Ja1}{r v N:Nat}{l:List Nat}(hb:∃ k ez,m[r]?=some ⟨k,3,v,ez,iC l⟩)(hl:∀ x,x<l.length->l.getD x 0<N)(hn:l.length<=128):IdsAt m r v 0 l N where
 hb:=by
  obtain ⟨k,ez,h⟩:=hb
  refine ⟨k,ez,iC l,h,by rw [Jg5];omega,fun i hi=>?_⟩
  rw [Nat.zero_add,Km1 hi]
 lt:=hl
 n:=hn
theorem Vk4 (mid:Nat->V){l:List Nat}(h:0<l.length):Vr7 (mid (l.getD 0 0)) (fun j=>mid (l.getD (1+j) 0)) (l.length - 1)=Kc4 mid l:=by
 match l,h with
 | x::t,_ =>
  show Vr7 (mid x) (fun j=>mid ((x::t).getD (1+j) 0)) t.length=List.foldl (fun a j=>fun k=>minI (a k) (mid j k)) (mid x) t
  have e:(fun j=>mid ((x::t).getD (1+j) 0))=fun j=>mid (t.getD j 0):=by funext j;rw [show 1+j=j+1 by omega];rfl
  rw [e]
  have g:∀ i,i<=t.length->Vr7 (mid x) (fun j=>mid (t.getD j 0)) i=List.foldl (fun a j=>fun k=>minI (a k) (mid j k)) (mid x) (t.take i):=by
   intro i
   induction i with
   | zero=>intro _;rfl
   | succ i ih =>
    intro hi
    have et:t.take (i+1)=t.take i++[t.getD i 0]:=by rw [List.take_add_one,List.getD_eq_getElem?_getD,List.getElem?_eq_getElem (show i<t.length by omega)];rfl
    rw [et,List.foldl_append,<-ih (by omega)];rfl
  rw [g _ (Nat.le_refl _),List.take_length]
theorem Xb4 (mid:Nat->V){l:List Nat}(h:0<l.length):Vr9 (mid (l.getD 0 0)) (fun j=>mid (l.getD (1+j) 0)) (l.length - 1)=Qz2 mid l:=by
 match l,h with
 | x::t,_ =>
  show Vr9 (mid x) (fun j=>mid ((x::t).getD (1+j) 0)) t.length=List.foldl (fun a j=>fun k=>maxI (a k) (mid j k)) (mid x) t
  have e:(fun j=>mid ((x::t).getD (1+j) 0))=fun j=>mid (t.getD j 0):=by funext j;rw [show 1+j=j+1 by omega];rfl
  rw [e]
  have g:∀ i,i<=t.length->Vr9 (mid x) (fun j=>mid (t.getD j 0)) i=List.foldl (fun a j=>fun k=>maxI (a k) (mid j k)) (mid x) (t.take i):=by
   intro i
   induction i with
   | zero=>intro _;rfl
   | succ i ih =>
    intro hi
    have et:t.take (i+1)=t.take i++[t.getD i 0]:=by rw [List.take_add_one,List.getD_eq_getElem?_getD,List.getElem?_eq_getElem (show i<t.length by omega)];rfl
    rw [et,List.foldl_append,<-ih (by omega)];rfl
  rw [g _ (Nat.le_refl _),List.take_length]
def lfN (mid:Nat->V)(l:List Nat)(c i:Nat):List Nat:=(l.take i).filter (Kz0 mid l c)
def rgN (mid:Nat->V)(l:List Nat)(c i:Nat):List Nat:=(l.take i).filter fun x=>!Kz0 mid l c x
theorem Kv7 {l:List Nat}{i:Nat}(h:i<l.length):l.take (i+1)=l.take i++[l.getD i 0]:=by rw [List.take_add_one,List.getD_eq_getElem?_getD,List.getElem?_eq_getElem h];rfl
theorem lf_t {mid:Nat->V}{l:List Nat}{c i:Nat}(h:i<l.length)(g:Kz0 mid l c (l.getD i 0)=true):lfN mid l c (i+1)=lfN mid l c i++[l.getD i 0]/\rgN mid l c (i+1)=rgN mid l c i:=by
 unfold lfN rgN
 rw [Kv7 h,List.filter_append,List.filter_append]
 generalize l.getD i 0=x at g ⊢
 simp [g]
theorem lf_f {mid:Nat->V}{l:List Nat}{c i:Nat}(h:i<l.length)(g:Kz0 mid l c (l.getD i 0)=false):lfN mid l c (i+1)=lfN mid l c i/\rgN mid l c (i+1)=rgN mid l c i++[l.getD i 0]:=by
 unfold lfN rgN
 rw [Kv7 h,List.filter_append,List.filter_append]
 generalize l.getD i 0=x at g ⊢
 simp [g]
theorem Vs1 (mid:Nat->V)(l:List Nat)(c:Nat):lfN mid l c l.length=Je9 mid l c/\rgN mid l c l.length=Jd7 mid l c:=by
 unfold lfN rgN;rw [List.take_length];exact ⟨rfl,rfl⟩
theorem Vk1 (mid:Nat->V)(l:List Nat)(c i:Nat):(lfN mid l c i).length<=l.length/\(rgN mid l c i).length<=l.length :=
 ⟨Nat.le_trans (List.length_filter_le _ _) (by rw [List.length_take];omega),Nat.le_trans (List.length_filter_le _ _) (by rw [List.length_take];omega)⟩
theorem Vm4 {l:List Nat}{i:Nat}(h:i<l.length):l.getD i 0 ∈ l:=by rw [List.getD_eq_getElem?_getD,List.getElem?_eq_getElem h];exact List.getElem_mem h
theorem Ky5 {l:List Nat}{N:Nat}{p:Nat->Bool}(h:∀ i,i<l.length->l.getD i 0<N):∀ i,i<(l.filter p).length->(l.filter p).getD i 0<N:=fun i hi=>by
 have h1:=(List.mem_filter.1 (Vm4 hi)).1
 obtain ⟨k,hk,e⟩:=List.getElem_of_mem h1
 have:=h k hk
 rw [List.getD_eq_getElem?_getD,List.getElem?_eq_getElem hk] at this
 rw [<-e];exact this
def BstAt (M:Ja1):Option (List Nat × Nat × Int)->CV->Int->Int->Prop
 | none,x,k,y=>x=.nils/\k=0/\y=0
 | some (b,n,c),x,k,y=>0<b.length/\b.length<=128/\k=(n:Int)/\y=c/\∃ rb vb kk ez,x=.sl rb vb 0 b.length/\M[rb]?=some ⟨kk,3,vb,ez,iC b⟩
structure SpQ where
 (c:Nat) (x:CV) (k y:Int) (M:Ja1)
structure SpI (m1:Ja1)(st:Nat->Option (List Nat × Nat × Int))(q:SpQ):Prop where
 c1:1<=q.c
 c8:q.c<=8
 hM:∃ L,q.M=m1++L
 wf:MWf q.M.length q.M
 hb:BstAt q.M (st (q.c - 1)) q.x q.k q.y
theorem BstAt.bel {M:Ja1}{b:Option (List Nat × Nat × Int)}{x:CV}{k y:Int}(h:BstAt M b x k y):∀ n,M.length<=n->CV.below n x=true:=fun n hn=>by
 match b,h with
 | none,h=>rw [h.1];rfl
 | some (b,n',c),h =>
  obtain ⟨h1,h2,h3,h4,rb,vb,kk,ez,h5,h6⟩:=h
  have:=Jb4 h6
  rw [h5];simp [CV.below];omega
theorem BstAt.app {M:Ja1}{b:Option (List Nat × Nat × Int)}{x:CV}{k y:Int}(h:BstAt M b x k y)(L:Ja1):BstAt (M++L) b x k y:=by
 match b,h with
 | none,h=>exact h
 | some (b,n,c),h =>
  obtain ⟨h1,h2,h3,h4,rb,vb,kk,ez,h5,h6⟩:=h
  exact ⟨h1,h2,h3,h4,rb,vb,kk,ez,h5,Ja8 h6 L⟩
theorem Xn2 (mid:Nat->V)(l:List Nat)(r v:Nat)(m:Ja1)(h0:0<l.length)(hn:l.length<=128)(hb:∃ k ez,m[r]?=some ⟨k,59,v,ez,Jb6 l.length (vF fun j=>mid (l.getD j 0))⟩):Ctr Tryz.prog 193 [.agg (c3C (mid (l.getD 0 0))),.one (.sl r v 3 (l.length - 1))] m (.agg (bxC (⟨Kc4 mid l,Qz2 mid l⟩))) m:=by
 have h:=Xf5 (mid (l.getD 0 0)) (fun j=>mid (l.getD j 0)) r v 1 (l.length - 1) l.length m hb (by omega) (by omega)
 rw [Vk4 mid h0,Xb4 mid h0] at h
 exact h
theorem Qt5 (mid:Nat->V)(l:List Nat)(m:Ja1):Ctr Tryz.prog 252 [.agg (bxC (⟨Kc4 mid l,Qz2 mid l⟩))] m (.agg (c3C (Jq4 mid l))) m:=Vc0 ⟨Kc4 mid l,Qz2 mid l⟩ m
theorem Vf2 (w:Nat)(c0 c1:CV)(pb pv N mb mv:Nat)(prs:Nat->PR)(mid:Nat->V)(r v a b ez:Nat)(o l:List Nat)(m:Ja1)(hM:MkAt m w c0 c1 pb pv N mb mv prs mid)(hb:m[r]?=some ⟨.grow,3,v,ez,iC o⟩)(hab:a<b)(hbo:b<=o.length)(ho:∀ x,x<o.length->o.getD x 0<N)(hol:o.length<=128)(hl:Jk3 o a b=l)(hwd:Jq4 mid l (Jh3 (Jq4 mid l))<=0):Ctr Tryz.prog 228 [.one (.ptr w 0 0),.one (.sl r v a l.length)] m (.one (.int .i64 ((l.length / 2:Nat):Int))) m:=by
 refine Ctr.en Tryz.func228 [.tmp 4] 131 fun hwf Q hQ=>?_
 have hw:=hM.hw
 obtain ⟨kmi,emi,hmi⟩:=hM.hm
 have hN:=hM.n
 have hI:IdsAt m r v a l N:=by rw [<-hl];exact Kr6 ⟨_,_,hb⟩ (by omega) hbo ho hol
 have hn:=hI.n
 have h0:0<l.length:=by rw [<-hl,Jf2 hbo];omega
 have hcs:∀ i,i<l.length->(iC o)[a+i]?=some (.int .i64 ((l.getD i 0:Nat):Int)):=fun i hi=>by
   have e:=Jf2 (a:=a) hbo
   rw [hl] at e
   rw [Km1 (by omega),<-hl,Jw1 (by omega)]
 have hcl:a+l.length<=(iC o).length:=by rw [Jg5,<-hl,Jf2 hbo];omega
 have lw:=Jb4 hw
 have lm:=Jb4 hmi
 have lb:=Jb4 hb
 have ml:(Jb6 N (vF mid)).length=N*3:=Ja9 (w:=3) (F:=vF mid) (fun _=>rfl) _
 have pl:(Jb6 l.length (vF fun j=>mid (l.getD j 0))).length=l.length*3:=Ja9 (w:=3) (F:=vF fun j=>mid (l.getD j 0)) (fun _=>rfl) _
 have ga0:List.take 3 (Jb6 l.length (vF fun j=>mid (l.getD j 0)))=[.int .i64 (mid (l.getD 0 0) 0),.int .i64 (mid (l.getD 0 0) 1),.int .i64 (mid (l.getD 0 0) 2)]:=Jc0 (w:=3) (F:=vF fun j=>mid (l.getD j 0)) (fun _=>rfl) h0
 have n1:(1:Int)<=(l.length:Int):=by omega
 have n2:(0:Int)<(l.length:Int):=by omega
 have n4:(l.length:Int)<=(l.length:Int):=Int.le_refl _
 have n5:3<=l.length*3:=by omega
 have hd2:(l.length:Int).tdiv 2=((l.length / 2:Nat):Int):=by rw [Int.tdiv_eq_ediv_of_nonneg (by omega)];omega
 have hw2:IntKind.i64.wrap ((l.length / 2:Nat):Int)=((l.length / 2:Nat):Int):=wi (by omega)
 have hw3:IntKind.i64.wrap ((l.length:Int) / 2)=((l.length / 2:Nat):Int):=by rw [show (l.length:Int) / 2=((l.length / 2:Nat):Int) by omega];exact hw2
 have hlt0:∀ k,¬m.length+k<m.length:=fun k=>by omega
 have U1:=ca4 hw (Ja8 hw) hmi (ca4 (Ja8 hmi) hb (Ja8 hb) (ca4 ml pl ga0 (ca4 n1 n2 n4 (ca4 n5 @Je7 @Ja4 (ca4 hd2 hw2 hw3 hwd)))))
 refine AW.c 2 U1 Z0 ?_
 refine AW.q fun K hK=>?_
 refine AW.c 1 U1 Z0 ?_
 apply AW.b
 refine AW.nilTm 59 3 5 rfl ?_
 try simp only [push_cast,simprocAttr,U1]
 refine AW.loopK [0,1,22,23] (fun i=>i<=l.length) (fun i=>[(5,.one (.sl m.length i 0 i)),(24,.one (.int .i64 (i:Int)))]) (fun i=>[(m.length,⟨.grow,59,i,3,Jb6 i (vF fun j=>mid (l.getD j 0))⟩)]) (fun i=>l.length - i) 0 (by omega) ?_ ?_ fun i hi2=>?_
 · first|rfl|(simp only [KS,simprocAttr,Jb6,Int.natCast_zero]<;>repeat' (first|rfl|apply And.intro))
 · (simp only [Ja3,push_cast,simprocAttr,Jb6])<;>rfl
 try simp only [Jb2,Ja3,push_cast,simprocAttr,U1]
 refine AW.c 1 U1 Z0 ?_
 refine AW.q fun K hK=>?_
 refine AW.cond rfl (fun h25=>?_) (fun h25=>?_)
 ·have hlt:i<l.length:=by have:=of_decide_eq_true h25;omega
  have c1:(0:Int)<=(i:Int):=by omega
  have c2:(i:Int)<(l.length:Int):=by omega
  have hcx:=hcs i hlt
  have x1:l.getD i 0<N:=hI.lt _ hlt
  obtain ⟨x9,hx9⟩:∃ x,x=l.getD i 0:=⟨_,rfl⟩
  rw [<-hx9] at hcx x1
  have x2:(0:Int)<=(x9:Int):=by omega
  have x3:(x9:Int)<(N:Int):=by omega
  have x4:x9*3+3<=N*3:=by omega
  have gax:=Jc0 (w:=3) (F:=vF mid) (fun _=>rfl) x1
  have gxx:vF mid x9=[.int .i64 (mid x9 0),.int .i64 (mid x9 1),.int .i64 (mid x9 2)]:=rfl
  have c3:a+i+1<=(iC o).length:=by omega
  have c1:(0:Int)<=(i:Int):=by omega
  have c2:(i:Int)<(l.length:Int):=by omega
  have q1:i<=140737488355327:=by omega
  have q2:(i+1)*24<=140737488355328:=by omega
  have gli:(Jb6 i (vF fun j=>mid (l.getD j 0))).length=i*3:=Ja9 (w:=3) (F:=vF fun j=>mid (l.getD j 0)) (fun _=>rfl) i
  have hap:Jb6 i (vF fun j=>mid (l.getD j 0))++[.int .i64 (mid x9 0),.int .i64 (mid x9 1),.int .i64 (mid x9 2)]=Jb6 (i+1) (vF fun j=>mid (l.getD j 0)):=by rw [hx9];rfl
  apply AW.z
  apply hK;clear hK
  refine AW.q fun K hK=>?_
  apply AW.b
  have U2:=ca4 U1 hcx x2 (ca4 x3 x4 gax (ca4 gxx c1 c2 (ca4 c3 q1 q2 (ca2 gli hlt))))
  refine AW.c 1 U2 Z0 ?_
  refine AW.g U2 Z0 ?_
  apply Ja6
  apply hK;clear hK
  refine AW.g U2 Z0 ?_
  apply Jc1
  have hwi:IntKind.i64.wrap ((i:Int)+1)=(i:Int)+1:=wi (by omega)
  refine ⟨i+1,by omega,by omega,?_⟩
  try simp only [Jb2,Ja3,push_cast,simprocAttr,U2,hwi,hap]
  exact Weak.to (extra:=_) (by simp only [KS,simprocAttr,hwi,hap]) (by first|rfl|(simp only [List.append_assoc,List.cons_append,List.nil_append];rfl)) (by first|rfl|(simp [AV.below,CV.below];done)|(simp [AV.below,CV.below];omega)) (by exact MWf.app (hwf.grow (by simp)) (Ja0 (Jc2 _ (fun _=>rfl) _) Jb8))
 have hin:i=l.length:=by have:=of_decide_eq_false h25;omega
 rw [hin]
 apply AW.v
 apply Jb0
 clear hK
 apply Jb0
 apply Ja5
 apply hK;clear hK
 refine AW.q fun K hK=>?_
 refine AW.draw [.val,.val,.rd 0,.val,.val,.ext,.fl,.wr] fol (by decide) (by kernel_rfl) ?_
 simp only [push_cast,simprocAttr,U1]
 refine DCall.z (Xn2 mid l m.length l.length _ h0 hn ⟨.grow,3,by rw [Js4];rfl⟩) ?_
 simp only [push_cast,simprocAttr,U1]
 apply hK;clear hK
 refine AW.c 2 U1 (ca2 (Qt5 mid l) (Qe9 (Jq4 mid l))) ?_
 refine AW.d [.val,.rd 0,.val,.ext,.rd 0,.val,.ext,.val,.val] fol U1 (ca2 (Qs1 (Kc4 mid l) (Jh3 (Jq4 mid l)) (Jv9 _)) (Qs1 (Jq4 mid l) (Jh3 (Jq4 mid l)) (Jv9 _))) ?_
 refine AW.q fun K hK=>?_
 refine AW.c 1 U1 Z0 ?_
 apply AW.y rfl
 refine AW.c 1 U1 Z0 ?_
 exact AW.ret (hQ _ _ _ (RetP.z hwf U1))
theorem Qa2 {M:Ja1}{st:Option (List Nat × Nat × Int)}{x:CV}{k y:Int}(h:BstAt M st x k y)(D:Int) :
  (st=none/\x=.nils/\k=0/\y=0) \/
  (∃ (bb:List Nat) (bn:Nat) (bc:Int) (rb vb:Nat) (kk:BK) (ez:Nat),st=some (bb,bn,bc)/\x=.sl rb vb 0 bb.length/\0<bb.length/\bb.length<=128/\k=(bn:Int)/\y=bc/\M[rb]?=some ⟨kk,3,vb,ez,iC bb⟩/\D<bc) \/
  (∃ (bb:List Nat) (bn:Nat) (bc:Int) (rb vb:Nat) (kk:BK) (ez:Nat),st=some (bb,bn,bc)/\x=.sl rb vb 0 bb.length/\0<bb.length/\bb.length<=128/\k=(bn:Int)/\y=bc/\M[rb]?=some ⟨kk,3,vb,ez,iC bb⟩/\¬D<bc):=by
 match st,h with
 | none,h=>exact .inl ⟨rfl,h⟩
 | some (bb,bn,bc),h =>
  obtain ⟨h1,h2,h3,h4,rb,vb,kk,ez,h5,h6⟩:=h
  by_cases g:D<bc
  ·exact .inr (.inl ⟨bb,bn,bc,rb,vb,kk,ez,rfl,h5,h1,h2,h3,h4,h6,g⟩)
  exact .inr (.inr ⟨bb,bn,bc,rb,vb,kk,ez,rfl,h5,h1,h2,h3,h4,h6,g⟩)
theorem Vb5 (prs:Nat->PR)(mid:Nat->V)(l:List Nat){c:Nat}(h:1<=c):Jp4 prs mid l c=Vo7 prs mid l c (Jp4 prs mid l (c - 1)):=by
 obtain ⟨d,rfl⟩:∃ d,c=d+1:=⟨c - 1,by omega⟩
 rfl
theorem SpI.stay {m1:Ja1}{prs:Nat->PR}{mid:Nat->V}{l:List Nat}{c:Nat}{x:CV}{k y:Int}{M:Ja1}(h:SpI m1 (Jp4 prs mid l) ⟨c,x,k,y,M⟩)(h8:c<8)(e:Jp4 prs mid l c=Jp4 prs mid l (c - 1))(v1 e1:Nat)(A:List Nat)(v2 e2:Nat)(B:List Nat):SpI m1 (Jp4 prs mid l) ⟨c+1,x,k,y,M++[⟨.grow,3,v1,e1,iC A⟩,⟨.grow,3,v2,e2,iC B⟩]⟩ where
 c1:=by show 1<=c+1;omega
 c8:=by show c+1<=8;omega
 hM:=by obtain ⟨L0,h0⟩:=h.hM;dsimp only at h0;exact ⟨L0++_,by show M++_=_;rw [h0,List.append_assoc]⟩
 wf:=MWf.app (h.wf.grow (by simp)) (Ja0 (Jg6 _ _) (Ja0 (Jg6 _ _) Jb8))
 hb:=by
  show BstAt (M++_) (Jp4 prs mid l (c+1 - 1)) x k y
  rw [Nat.add_sub_cancel,e];exact h.hb.app _
theorem SpI.best {m1:Ja1}{prs:Nat->PR}{mid:Nat->V}{l:List Nat}{c:Nat}{x:CV}{k y:Int}{M:Ja1}(h:SpI m1 (Jp4 prs mid l) ⟨c,x,k,y,M⟩)(h8:c<8)(hn:l.length<=128)(h0:0<(Je9 mid l c).length)
  (e:Jp4 prs mid l c=some (Je9 mid l c++Jd7 mid l c,(Je9 mid l c).length,Jo8 prs (Je9 mid l c)+Jo8 prs (Jd7 mid l c))) (vb ez v2 e2:Nat) (B:List Nat):SpI m1 (Jp4 prs mid l) ⟨c+1,.sl M.length vb 0 ((Je9 mid l c).length+(Jd7 mid l c).length),((Je9 mid l c).length:Int),Jo8 prs (Je9 mid l c)+Jo8 prs (Jd7 mid l c),M++[⟨.grow,3,vb,ez,iC (Je9 mid l c)++iC (Jd7 mid l c)⟩,⟨.grow,3,v2,e2,iC B⟩]⟩ where
 c1:=by show 1<=c+1;omega
 c8:=by show c+1<=8;omega
 hM:=by obtain ⟨L0,h0⟩:=h.hM;dsimp only at h0;exact ⟨L0++_,by show M++_=_;rw [h0,List.append_assoc]⟩
 wf:=MWf.app (h.wf.grow (by simp)) (Ja0 (by show (iC _++iC _).all _=true;rw [Kq7];exact Jg6 _ _) (Ja0 (Jg6 _ _) Jb8))
 hb:=by
  show BstAt _ (Jp4 prs mid l (c+1 - 1)) _ _ _
  rw [Nat.add_sub_cancel,e]
  have hp:(Je9 mid l c++Jd7 mid l c).Perm l:=List.filter_append_perm _ _
  have hq:=hp.length_eq
  refine ⟨by rw [List.length_append];omega,by omega,rfl,rfl,M.length,vb,.grow,ez,by rw [List.length_append],?_⟩
  rw [Js4,Kq7];rfl
theorem Jr6 {L:Nat}{m:Ja1}{r:Nat}{b:Blk}(h:MWf L m)(hb:b.cells.all (CV.below L)=true)(hk:b.kind.below L=true):MWf L (m.set r b):=fun c hc=>by
 rcases List.mem_or_eq_of_mem_set hc with h1|h1
 ·exact h c h1
 rw [h1];exact Kn8 hk hb
theorem Kj7 {o:List Nat}{a b:Nat}(h1:a<b)(h2:b<=o.length):Jv5 o a b (Jk3 o a b)=o:=by
 unfold Jv5 Jk3
 rw [show o.drop b=(o.drop a).drop (b - a) by rw [List.drop_drop];congr 1;omega,List.take_append_drop,List.take_append_drop]
theorem set_self {m:Ja1}{r:Nat}{b:Blk}(h:m[r]?=some b):m.set r b=m:=by
 apply List.ext_getElem?
 intro i
 by_cases e:r=i
 ·subst e;rw [List.getElem?_set_self (Jb4 h),h]
 rw [List.getElem?_set_ne e]
theorem Qt8 {o l:List Nat}{a b:Nat}(h1:a<b)(h2:b<=o.length)(hl:l.length=b - a):setL (iC o) a (iC l)=iC (Jv5 o a b l):=by
 have e0:o=o.take a++(Jk3 o a b++o.drop b):=(Kj7 h1 h2).symm
 have e:iC o=iC (o.take a)++(iC (Jk3 o a b)++iC (o.drop b)):=by rw [Kq7,Kq7,<-e0]
 have h:=Qu0 (iC l) (iC (Jk3 o a b)) (iC (o.drop b)) (by rw [Jg5,Jg5,Jf2 h2,hl]) (iC (o.take a))
 rw [Jg5,List.length_take,Nat.min_eq_left (by omega)] at h
 rw [e,h,Kq7,Kq7];rfl
theorem Vf1 (w:Nat)(c0 c1:CV)(pb pv N mb mv:Nat)(prs:Nat->PR)(mid:Nat->V)(r v a b ez:Nat)(o l:List Nat)(m:Ja1)(hM:MkAt m w c0 c1 pb pv N mb mv prs mid)(hb:m[r]?=some ⟨.grow,3,v,ez,iC o⟩)(hab:a<b)(hbo:b<=o.length)(ho:∀ x,x<o.length->o.getD x 0<N)(hol:o.length<=128)(hl:Jk3 o a b=l)(hwd:¬Jq4 mid l (Jh3 (Jq4 mid l))<=0):Ctr Tryz.prog 228 [.one (.ptr w 0 0),.one (.sl r v a l.length)] m (.one (.int .i64 (((Jk7 prs mid l).2:Nat):Int))) (m.set r ⟨.grow,3,v,ez,iC (Jv5 o a b (Jk7 prs mid l).1)⟩):=by
 refine Ctr.en Tryz.func228 [.tmp 4] 131 fun hwf Q hQ=>?_
 have hw:=hM.hw
 obtain ⟨kmi,emi,hmi⟩:=hM.hm
 have hN:=hM.n
 have hI:IdsAt m r v a l N:=by rw [<-hl];exact Kr6 ⟨_,_,hb⟩ (by omega) hbo ho hol
 have hn:=hI.n
 have h0:0<l.length:=by rw [<-hl,Jf2 hbo];omega
 have hcs:∀ i,i<l.length->(iC o)[a+i]?=some (.int .i64 ((l.getD i 0:Nat):Int)):=fun i hi=>by
   have e:=Jf2 (a:=a) hbo
   rw [hl] at e
   rw [Km1 (by omega),<-hl,Jw1 (by omega)]
 have hcl:a+l.length<=(iC o).length:=by rw [Jg5,<-hl,Jf2 hbo];omega
 have lw:=Jb4 hw
 have lm:=Jb4 hmi
 have lb:=Jb4 hb
 have ml:(Jb6 N (vF mid)).length=N*3:=Ja9 (w:=3) (F:=vF mid) (fun _=>rfl) _
 have pl:(Jb6 l.length (vF fun j=>mid (l.getD j 0))).length=l.length*3:=Ja9 (w:=3) (F:=vF fun j=>mid (l.getD j 0)) (fun _=>rfl) _
 have ga0:List.take 3 (Jb6 l.length (vF fun j=>mid (l.getD j 0)))=[.int .i64 (mid (l.getD 0 0) 0),.int .i64 (mid (l.getD 0 0) 1),.int .i64 (mid (l.getD 0 0) 2)]:=Jc0 (w:=3) (F:=vF fun j=>mid (l.getD j 0)) (fun _=>rfl) h0
 have n1:(1:Int)<=(l.length:Int):=by omega
 have n2:(0:Int)<(l.length:Int):=by omega
 have n4:(l.length:Int)<=(l.length:Int):=Int.le_refl _
 have n5:3<=l.length*3:=by omega
 have hd2:(l.length:Int).tdiv 2=((l.length / 2:Nat):Int):=by rw [Int.tdiv_eq_ediv_of_nonneg (by omega)];omega
 have hw2:IntKind.i64.wrap ((l.length / 2:Nat):Int)=((l.length / 2:Nat):Int):=wi (by omega)
 have hw3:IntKind.i64.wrap ((l.length:Int) / 2)=((l.length / 2:Nat):Int):=by rw [show (l.length:Int) / 2=((l.length / 2:Nat):Int) by omega];exact hw2
 have hlt0:∀ k,¬m.length+k<m.length:=fun k=>by omega
 refine AW.sr 2 fun K hK=>?_
 have U1:=ca4 hw (Ja8 hw) hmi (ca4 (Ja8 hmi) hb (Ja8 hb) (ca4 ml pl ga0 (ca4 n1 n2 n4 (ca2 n5 hwd))))
 simp only [push_cast,simprocAttr,bxC,c3C,U1]
 apply hK;clear hK
 refine AW.q fun K hK=>?_
 refine AW.sr 1 fun K hK=>?_
 simp only [push_cast,simprocAttr,bxC,c3C,U1]
 apply hK;clear hK
 apply AW.b
 refine AW.nilTm 59 3 5 rfl ?_
 try simp only [push_cast,simprocAttr,bxC,c3C,U1]
 refine AW.loopK [0,1,22,23] (fun i=>i<=l.length) (fun i=>[(5,.one (.sl m.length i 0 i)),(24,.one (.int .i64 (i:Int)))]) (fun i=>[(m.length,⟨.grow,59,i,3,Jb6 i (vF fun j=>mid (l.getD j 0))⟩)]) (fun i=>l.length - i) 0 (by omega) ?_ ?_ fun i hi2=>?_
 · first|rfl|(simp only [KS,simprocAttr,Jb6,Int.natCast_zero]<;>repeat' (first|rfl|apply And.intro))
 · (simp only [Ja3,push_cast,simprocAttr,Jb6])<;>rfl
 try simp only [Jb2,Ja3,push_cast,simprocAttr,bxC,c3C,U1]
 refine AW.sr 1 fun K hK=>?_
 simp only [push_cast,simprocAttr,bxC,c3C,U1]
 apply hK;clear hK
 refine AW.q fun K hK=>?_
 refine AW.cond rfl (fun h25=>?_) (fun h25=>?_)
 ·have hlt:i<l.length:=by have:=of_decide_eq_true h25;omega
  have c1:(0:Int)<=(i:Int):=by omega
  have c2:(i:Int)<(l.length:Int):=by omega
  have hcx:=hcs i hlt
  have x1:l.getD i 0<N:=hI.lt _ hlt
  obtain ⟨x9,hx9⟩:∃ x,x=l.getD i 0:=⟨_,rfl⟩
  rw [<-hx9] at hcx x1
  have x2:(0:Int)<=(x9:Int):=by omega
  have x3:(x9:Int)<(N:Int):=by omega
  have x4:x9*3+3<=N*3:=by omega
  have gax:=Jc0 (w:=3) (F:=vF mid) (fun _=>rfl) x1
  have gxx:vF mid x9=[.int .i64 (mid x9 0),.int .i64 (mid x9 1),.int .i64 (mid x9 2)]:=rfl
  have c3:a+i+1<=(iC o).length:=by omega
  have c1:(0:Int)<=(i:Int):=by omega
  have c2:(i:Int)<(l.length:Int):=by omega
  have q1:i<=140737488355327:=by omega
  have q2:(i+1)*24<=140737488355328:=by omega
  have gli:(Jb6 i (vF fun j=>mid (l.getD j 0))).length=i*3:=Ja9 (w:=3) (F:=vF fun j=>mid (l.getD j 0)) (fun _=>rfl) i
  have hap:Jb6 i (vF fun j=>mid (l.getD j 0))++[.int .i64 (mid x9 0),.int .i64 (mid x9 1),.int .i64 (mid x9 2)]=Jb6 (i+1) (vF fun j=>mid (l.getD j 0)):=by rw [hx9];rfl
  apply AW.z
  apply hK;clear hK
  refine AW.q fun K hK=>?_
  apply AW.b
  refine AW.sr 1 fun K hK=>?_
  have U2:=ca4 U1 hcx x2 (ca4 x3 x4 gax (ca4 gxx c1 c2 (ca4 c3 q1 q2 (ca2 gli hlt))))
  simp only [push_cast,simprocAttr,bxC,c3C,U2]
  apply hK;clear hK
  refine AW.rg ?_
  simp only [push_cast,simprocAttr,bxC,c3C,U2]
  apply Ja6
  apply hK;clear hK
  refine AW.rg ?_
  simp only [push_cast,simprocAttr,bxC,c3C,U2]
  apply Jc1
  have hwi:IntKind.i64.wrap ((i:Int)+1)=(i:Int)+1:=wi (by omega)
  refine ⟨i+1,by omega,by omega,?_⟩
  try simp only [Jb2,Ja3,push_cast,simprocAttr,bxC,c3C,U2,hwi,hap]
  exact Weak.to (extra:=_) (by simp only [KS,simprocAttr,hwi,hap]) (by first|rfl|(simp only [List.append_assoc,List.cons_append,List.nil_append];rfl)) (by first|rfl|(simp [AV.below,CV.below];done)|(simp [AV.below,CV.below];omega)) (by exact MWf.app (hwf.grow (by simp)) (Ja0 (Jc2 _ (fun _=>rfl) _) Jb8))
 have hin:i=l.length:=by have:=of_decide_eq_false h25;omega
 rw [hin]
 apply AW.v
 apply Jb0
 clear hK
 apply Jb0
 apply Ja5
 apply hK;clear hK
 refine AW.q fun K hK=>?_
 refine AW.draw [.val,.val,.rd 0,.val,.val,.ext,.fl,.wr] fol (by decide) (by kernel_rfl) ?_
 simp only [push_cast,simprocAttr,bxC,c3C,U1]
 refine DCall.z (Xn2 mid l m.length l.length _ h0 hn ⟨.grow,3,by rw [Js4];rfl⟩) ?_
 simp only [push_cast,simprocAttr,bxC,c3C,U1]
 apply hK;clear hK
 refine AW.sr 2 fun K hK=>?_
 simp only [push_cast,simprocAttr,bxC,c3C,U1]
 refine CThen.by (Qt5 mid l _) ?_
 simp only [push_cast,simprocAttr,bxC,c3C,U1]
 refine CThen.by (Qe9 (Jq4 mid l) _) ?_
 simp only [push_cast,simprocAttr,bxC,c3C,U1]
 apply hK;clear hK
 refine AW.q fun K hK=>?_
 refine AW.draw [.val,.rd 0,.val,.ext,.rd 0,.val,.ext,.val,.val] fol (by decide) (by kernel_rfl) ?_
 simp only [push_cast,simprocAttr,bxC,c3C,U1]
 refine DCall.z (Qs1 (Kc4 mid l) (Jh3 (Jq4 mid l)) (Jv9 _) _) ?_
 simp only [push_cast,simprocAttr,bxC,c3C,U1]
 refine DCall.z (Qs1 (Jq4 mid l) (Jh3 (Jq4 mid l)) (Jv9 _) _) ?_
 simp only [push_cast,simprocAttr,bxC,c3C,U1]
 apply hK;clear hK
 refine AW.q fun K hK=>?_
 refine AW.sr 1 fun K hK=>?_
 simp only [push_cast,simprocAttr,bxC,c3C,U1]
 apply hK;clear hK
 apply AW.x rfl
 apply AW.z
 apply hK;clear hK
 refine AW.anyMemG (fun m1=>(∃ L,m1=m++L)/\MWf m1.length m1) ⟨⟨_,rfl⟩,MWf.app (hwf.grow (by simp)) (Ja0 (Jc2 _ (fun _=>rfl) _) (Ja0 rfl (Ja0 rfl Jb8)))⟩ fun m1 hm1=>?_
 refine AW.sr 2 fun K hK=>?_
 simp only [push_cast,simprocAttr,bxC,c3C,U1]
 apply hK;clear hK
 refine AW.q fun K hK=>?_
 refine AW.sr 1 fun K hK=>?_
 simp only [push_cast,simprocAttr,bxC,c3C,U1]
 apply hK;clear hK
 apply AW.b
 refine AW.loopX [0,1,10,11,12] (fun (q:SpQ)=>SpI m1 (Jp4 prs mid l) q) (fun (q:SpQ)=>[(13,.one q.x),(14,.one (.int .i64 q.k)),(15,.one (.int .i64 q.y)),(16,.one (.int .i64 (q.c:Int)))]) (fun (q:SpQ)=>q.M) (fun (q:SpQ)=>8 - q.c) ⟨1,.nils,0,0,m1⟩ ⟨Nat.le_refl _,(by show 1<=8;omega),⟨[],(List.append_nil _).symm⟩,hm1.2,⟨rfl,rfl,rfl⟩⟩ ?_ ?_ (fun q hq=>by obtain ⟨L,h⟩:=hq.hM;rw [h];simp) fun q hi9=>?_
 · first|rfl|(simp only [KS,simprocAttr,Int.natCast_zero]<;>repeat' (first|rfl|apply And.intro))
 · rfl
 obtain ⟨c,x,k,y,M⟩:=q
 have hSI:=hi9
 obtain ⟨cb1,cb8,hM9,hwf9,hb9⟩:=hi9
 dsimp only at cb1 cb8 hM9 hwf9 hb9 ⊢
 have hxb:=hb9.bel
 have hxb2:=hxb
 simp [CV.below] at hxb2
 have hMX:∃ L,M=m++L:=by obtain ⟨L,h⟩:=hM9;obtain ⟨⟨L0,h0⟩,_⟩:=hm1;exact ⟨L0++L,by rw [h,h0,List.append_assoc]⟩
 have hMM:MkAt M w c0 c1 pb pv N mb mv prs mid:=by obtain ⟨L,h⟩:=hMX;rw [h];exact hM.app L
 have hIM:IdsAt M r v a l N:=by obtain ⟨L,h⟩:=hMX;rw [h];exact hI.app L
 have hbM:M[r]?=some ⟨.grow,3,v,ez,iC o⟩:=by obtain ⟨L,h⟩:=hMX;rw [h];exact Ja8 hb L
 have hwM:=hMM.hw
 obtain ⟨kmM,emM,hmM⟩:=hMM.hm
 have lwM:=Jb4 hwM
 have lmM:=Jb4 hmM
 have lbM:=Jb4 hbM
 have hltM:∀ k,¬M.length+k<M.length:=fun k=>by omega
 try simp only [Jb2,Ja3,push_cast,simprocAttr,bxC,c3C,U1,hwM,Ja8 hwM,hmM,Ja8 hmM,hbM,Ja8 hbM]
 refine AW.q fun K hK=>?_
 refine AW.sr 1 fun K hK=>?_
 have U3:=ca4 U1 hwM (Ja8 hwM) (ca4 hmM (Ja8 hmM) hbM (Ja8 hbM))
 simp only [push_cast,simprocAttr,bxC,c3C,U3]
 apply hK;clear hK
 refine AW.cond rfl (fun h62=>?_) (fun h62=>?_)
 ·have h8:c<8:=by have:=of_decide_eq_true h62;omega
  have hmu:8 - (c+1)<8 - c:=by omega
  have hw9:IntKind.i64.wrap ((c:Int)+1)=(c:Int)+1:=wi (by omega)
  have hcu:=Vb5 prs mid l cb1
  apply AW.z
  apply hK;clear hK
  refine AW.q fun K hK=>?_
  apply AW.b
  refine AW.sr 1 fun K hK=>?_
  simp only [push_cast,simprocAttr,bxC,c3C,U3]
  apply hK;clear hK
  refine AW.q fun K hK=>?_
  refine AW.sr 1 fun K hK=>?_
  simp only [push_cast,simprocAttr,bxC,c3C,U3]
  apply hK;clear hK
  apply AW.b
  refine AW.nilTm 3 1 17 rfl ?_
  try simp only [push_cast,simprocAttr,bxC,c3C,U3]
  refine AW.nilTm 3 1 18 rfl ?_
  try simp only [push_cast,simprocAttr,bxC,c3C,U3]
  refine AW.loopK [0,1,10,11,12,13,14,15,16,65,66] (fun i=>i<=l.length) (fun i=>[(17,.one (.sl M.length (lfN mid l c i).length 0 (lfN mid l c i).length)),(18,.one (.sl (M.length+1) (rgN mid l c i).length 0 (rgN mid l c i).length)),(67,.one (.int .i64 (i:Int)))]) (fun i=>[(M.length,⟨.grow,3,(lfN mid l c i).length,1,iC (lfN mid l c i)⟩),(M.length+1,⟨.grow,3,(rgN mid l c i).length,1,iC (rgN mid l c i)⟩)]) (fun i=>l.length - i) 0 (by omega) ?_ ?_ fun i hi13=>?_
  · first|rfl|(simp only [KS,simprocAttr,lfN,rgN,List.take_zero,List.filter_nil,iC,List.map_nil,List.length_nil,Int.natCast_zero]<;>repeat' (first|rfl|apply And.intro))
  · (simp only [Ja3,push_cast,simprocAttr,lfN,rgN,List.take_zero,List.filter_nil,iC,List.map_nil,List.length_nil])<;>rfl
  try simp only [Jb2,Ja3,push_cast,simprocAttr,bxC,c3C,U3]
  refine AW.sr 1 fun K hK=>?_
  simp only [push_cast,simprocAttr,bxC,c3C,U3]
  apply hK;clear hK
  refine AW.q fun K hK=>?_
  refine AW.cond rfl (fun h68=>?_) (fun h68=>?_)
  ·have hlt:i<l.length:=by have:=of_decide_eq_true h68;omega
   have c1:(0:Int)<=(i:Int):=by omega
   have c2:(i:Int)<(l.length:Int):=by omega
   have hcx:=hcs i hlt
   have x1:l.getD i 0<N:=hI.lt _ hlt
   obtain ⟨x9,hx9⟩:∃ x,x=l.getD i 0:=⟨_,rfl⟩
   rw [<-hx9] at hcx x1
   have x2:(0:Int)<=(x9:Int):=by omega
   have x3:(x9:Int)<(N:Int):=by omega
   have x4:x9*3+3<=N*3:=by omega
   have gax:=Jc0 (w:=3) (F:=vF mid) (fun _=>rfl) x1
   have gxx:vF mid x9=[.int .i64 (mid x9 0),.int .i64 (mid x9 1),.int .i64 (mid x9 2)]:=rfl
   have c3:a+i+1<=(iC o).length:=by omega
   have z1:(0:Int)<=(i:Int):=by omega
   have z2:(i:Int)<(l.length:Int):=by omega
   apply AW.z
   apply hK;clear hK
   refine AW.q fun K hK=>?_
   apply AW.b
   refine AW.sr 2 fun K hK=>?_
   have U4:=ca4 U3 hcx x2 (ca4 x3 x4 gax (ca4 gxx z1 z2 (ca2 c3 hlt)))
   simp only [push_cast,simprocAttr,bxC,c3C,U4]
   refine CThen.by (Qs1 (mid x9) (Jh3 (Jq4 mid l)) (Jv9 _) _) ?_
   simp only [push_cast,simprocAttr,bxC,c3C,U4]
   refine CThen.by (Xi7 (mid x9 (Jh3 (Jq4 mid l))) (Kc4 mid l (Jh3 (Jq4 mid l))) (Jq4 mid l (Jh3 (Jq4 mid l))) _) ?_
   simp only [push_cast,simprocAttr,bxC,c3C,U4]
   apply hK;clear hK
   refine AW.cond rfl (fun h84=>?_) (fun h84=>?_)
   ·have hg:Kz0 mid l c (l.getD i 0)=true:=by rw [<-hx9];exact h84
    obtain ⟨hl1,hl2⟩:=lf_t hlt hg
    rw [<-hx9] at hl1
    have hq1:(lfN mid l c i).length<=140737488355327:=by have:=Vk1 mid l c i;omega
    have hq2:((lfN mid l c i).length+1)*8<=140737488355328:=by have:=Vk1 mid l c i;omega
    have hgl:(iC (lfN mid l c i)).length=(lfN mid l c i).length:=Jg5 _
    have hap1:=Jw8 (lfN mid l c i) x9
    refine AW.rg ?_
    simp only [push_cast,simprocAttr,bxC,c3C,U4,hq1,hq2,hgl]
    apply Ja6
    apply hK;clear hK
    refine AW.rg ?_
    simp only [push_cast,simprocAttr,bxC,c3C,U4,hq1,hq2,hgl]
    apply Jc1
    have hwi:IntKind.i64.wrap ((i:Int)+1)=(i:Int)+1:=wi (by omega)
    refine ⟨i+1,by omega,by omega,?_⟩
    try simp only [Jb2,Ja3,push_cast,simprocAttr,bxC,c3C,U4,hq1,hq2,hgl,hwi,hl1,hl2,hap1,List.length_append]
    exact Weak.to (extra:=_) (by simp only [KS,simprocAttr,hwi,hl1,hl2,hap1,List.length_append]) (by first|rfl|(simp only [List.append_assoc,List.cons_append,List.nil_append];rfl)) (by first|rfl|(simp [AV.below,CV.below,hxb2];done)|(simp [AV.below,CV.below,hxb2];omega)) (by exact MWf.app (hwf9.grow (by simp)) (Ja0 (Jg6 _ _) (Ja0 (Jg6 _ _) Jb8)))
   have hg:Kz0 mid l c (l.getD i 0)=false:=by rw [<-hx9];exact h84
   obtain ⟨hl1,hl2⟩:=lf_f hlt hg
   rw [<-hx9] at hl2
   have hq1:(rgN mid l c i).length<=140737488355327:=by have:=Vk1 mid l c i;omega
   have hq2:((rgN mid l c i).length+1)*8<=140737488355328:=by have:=Vk1 mid l c i;omega
   have hgl:(iC (rgN mid l c i)).length=(rgN mid l c i).length:=Jg5 _
   have hap1:=Jw8 (rgN mid l c i) x9
   refine AW.rg ?_
   simp only [push_cast,simprocAttr,bxC,c3C,U4,hq1,hq2,hgl]
   apply Ja6
   apply hK;clear hK
   refine AW.rg ?_
   simp only [push_cast,simprocAttr,bxC,c3C,U4,hq1,hq2,hgl]
   apply Jc1
   have hwi:IntKind.i64.wrap ((i:Int)+1)=(i:Int)+1:=wi (by omega)
   refine ⟨i+1,by omega,by omega,?_⟩
   try simp only [Jb2,Ja3,push_cast,simprocAttr,bxC,c3C,U4,hq1,hq2,hgl,hwi,hl1,hl2,hap1,List.length_append]
   exact Weak.to (extra:=_) (by simp only [KS,simprocAttr,hwi,hl1,hl2,hap1,List.length_append]) (by first|rfl|(simp only [List.append_assoc,List.cons_append,List.nil_append];rfl)) (by first|rfl|(simp [AV.below,CV.below,hxb2];done)|(simp [AV.below,CV.below,hxb2];omega)) (by exact MWf.app (hwf9.grow (by simp)) (Ja0 (Jg6 _ _) (Ja0 (Jg6 _ _) Jb8)))
  have hin:i=l.length:=by have:=of_decide_eq_false h68;omega
  rw [hin,(Vs1 mid l c).1,(Vs1 mid l c).2]
  apply AW.v
  apply Jb0
  clear hK
  apply Jb0
  apply Ja5
  apply hK;clear hK
  refine AW.q fun K hK=>?_
  refine AW.q fun K hK=>?_
  have hk26:(Je9 mid l c=[]/\((Je9 mid l c).length:Int)=0)\/(Je9 mid l c≠[]/\0<(Je9 mid l c).length/\Jd7 mid l c=[])\/(Je9 mid l c≠[]/\Jd7 mid l c≠[]/\0<(Je9 mid l c).length/\0<(Jd7 mid l c).length):=by
    by_cases g1:Je9 mid l c=[]
    · exact .inl ⟨g1,by rw [g1];rfl⟩
    by_cases g2:Jd7 mid l c=[]
    · exact .inr (.inl ⟨g1,List.length_pos_iff.2 g1,g2⟩)
    exact .inr (.inr ⟨g1,g2,List.length_pos_iff.2 g1,List.length_pos_iff.2 g2⟩)
  rcases hk26 with ⟨g1,g2⟩|⟨g1,g2,g3⟩|⟨g1,g2,g3,g4⟩
  ·have hst:Jp4 prs mid l c=Jp4 prs mid l (c - 1):=by rw [hcu];unfold Vo7;rw [if_pos (.inl g1)]
   have hNx:=hSI.stay h8 hst
   have e1:(((Je9 mid l c).length:Int) ==0)=true:=by rw [g2];rfl
   refine AW.rg ?_
   simp only [push_cast,simprocAttr,bxC,c3C,U3,e1]
   apply hK;clear hK
   apply AW.y rfl
   apply AW.v
   apply Jb0
   clear hK
   apply Ja5
   apply hK;clear hK
   refine AW.rg ?_
   simp only [push_cast,simprocAttr,bxC,c3C,U3,e1]
   apply Jc1
   try simp only [Jb2,Ja3,push_cast,simprocAttr,bxC,c3C,U3,e1]
   first|exact ⟨_,hNx _ _ _ _ _ _,hmu,Weak.same (by simp only [KS,simprocAttr,hw9,Int.natCast_add,Int.cast_ofNat_Int,Int.natCast_one]) (by first|rfl|(simp only [List.append_assoc,List.cons_append,List.nil_append];rfl))⟩|exact ⟨_,hNx ((Je9 mid l c).length+1) 1 _ _ _,hmu,Weak.same (by simp only [KS,simprocAttr,hw9,Int.natCast_add,Int.cast_ofNat_Int,Int.natCast_one]) (by first|rfl|(simp only [List.append_assoc,List.cons_append,List.nil_append];rfl))⟩
  ·have hst:Jp4 prs mid l c=Jp4 prs mid l (c - 1):=by rw [hcu];unfold Vo7;rw [if_pos (.inr g3)]
   have hNx:=hSI.stay h8 hst
   have e1:(((Je9 mid l c).length:Int) ==0)=false:=by simp;omega
   have e2:(((Jd7 mid l c).length:Int) ==0)=true:=by rw [g3];rfl
   refine AW.rg ?_
   simp only [push_cast,simprocAttr,bxC,c3C,U3,e1,e2]
   apply hK;clear hK
   apply AW.y rfl
   apply AW.v
   apply Jb0
   clear hK
   apply Ja5
   apply hK;clear hK
   refine AW.rg ?_
   simp only [push_cast,simprocAttr,bxC,c3C,U3,e1,e2]
   apply Jc1
   try simp only [Jb2,Ja3,push_cast,simprocAttr,bxC,c3C,U3,e1,e2]
   first|exact ⟨_,hNx _ _ _ _ _ _,hmu,Weak.same (by simp only [KS,simprocAttr,hw9,Int.natCast_add,Int.cast_ofNat_Int,Int.natCast_one]) (by first|rfl|(simp only [List.append_assoc,List.cons_append,List.nil_append];rfl))⟩|exact ⟨_,hNx ((Je9 mid l c).length+1) 1 _ _ _,hmu,Weak.same (by simp only [KS,simprocAttr,hw9,Int.natCast_add,Int.cast_ofNat_Int,Int.natCast_one]) (by first|rfl|(simp only [List.append_assoc,List.cons_append,List.nil_append];rfl))⟩
  have e1:(((Je9 mid l c).length:Int) ==0)=false:=by simp;omega
  have e2:(((Jd7 mid l c).length:Int) ==0)=false:=by simp;omega
  have hle1:(Je9 mid l c).length<=l.length:=List.length_filter_le _ _
  have hle2:(Jd7 mid l c).length<=l.length:=List.length_filter_le _ _
  have hlf1:∀ i,i<(Je9 mid l c).length->(Je9 mid l c).getD i 0<N:=Ky5 hI.lt
  have hlf2:∀ i,i<(Jd7 mid l c).length->(Jd7 mid l c).getD i 0<N:=Ky5 hI.lt
  have hs1:=Qf6 (Jp7 (Jc3 prs (Je9 mid l c)))
  have hs2:=Qf6 (Jp7 (Jc3 prs (Jd7 mid l c)))
  have hcb:∀ t:List Nat,t.length<=128->-274877906944<=Jo8 prs t/\Jo8 prs t<=274877906944:=fun t ht=>by
    have hs:=Qf6 (Jp7 (Jc3 prs t))
    have q1:=Int.mul_le_mul_of_nonneg_left hs.1 (show 0<=(t.length:Int) by omega)
    have q2:=Int.mul_le_mul_of_nonneg_left hs.2 (show 0<=(t.length:Int) by omega)
    unfold Jo8;omega
  have hb1:=hcb (Je9 mid l c) (by omega)
  have hb2:=hcb (Jd7 mid l c) (by omega)
  have hwc:IntKind.i64.wrap (Jo8 prs (Je9 mid l c)+Jo8 prs (Jd7 mid l c))=Jo8 prs (Je9 mid l c)+Jo8 prs (Jd7 mid l c):=wi (by omega)
  refine AW.rg ?_
  simp only [push_cast,simprocAttr,bxC,c3C,U3,e1,e2,hwc]
  apply hK;clear hK
  apply AW.x rfl
  apply AW.z
  apply hK;clear hK
  refine AW.sr 1 fun K hK=>?_
  simp only [push_cast,simprocAttr,bxC,c3C,U3,e1,e2,hwc]
  refine CThen.by (Qs9 w c0 c1 pb pv N mb mv prs mid M.length _ 0 (Je9 mid l c) _ (hMM.app _) (Qj3 ⟨.grow,1,by rw [Js4];rfl⟩ hlf1 (by omega)) g3) ?_
  simp only [push_cast,simprocAttr,bxC,c3C,U3,e1,e2,hwc]
  refine CThen.by (Qs9 w c0 c1 pb pv N mb mv prs mid (M.length+1) _ 0 (Jd7 mid l c) _ (hMM.app _) (Qj3 ⟨.grow,1,by rw [Jf8];rfl⟩ hlf2 (by omega)) g4) ?_
  simp only [push_cast,simprocAttr,bxC,c3C,U3,e1,e2,hwc]
  apply hK;clear hK
  refine AW.q fun K hK=>?_
  rcases Qa2 hb9 (Jo8 prs (Je9 mid l c)+Jo8 prs (Jd7 mid l c)) with ⟨hs0,rfl,rfl,rfl⟩|⟨bb,bn,bc,rb,vb,kk,eb,hs0,rfl,hp0,hp1,rfl,rfl,hlk,hlt9⟩|⟨bb,bn,bc,rb,vb,kk,eb,hs0,rfl,hp0,hp1,rfl,rfl,hlk,hlt9⟩
  ·have hst:Jp4 prs mid l c=some (Je9 mid l c++Jd7 mid l c,(Je9 mid l c).length,Jo8 prs (Je9 mid l c)+Jo8 prs (Jd7 mid l c)):=by rw [hcu];unfold Vo7;rw [if_neg (fun h=>h.elim g1 g2),hs0]
   have hNx:=hSI.best h8 hn g3 hst
   have hgl1:(iC (Je9 mid l c)).length=(Je9 mid l c).length:=Jg5 _
   have hgl2:(iC (Jd7 mid l c)).length=(Jd7 mid l c).length:=Jg5 _
   have hq1:(Je9 mid l c).length+(Jd7 mid l c).length<=140737488355327:=by omega
   have hq2:((Je9 mid l c).length+(Jd7 mid l c).length)*8<=140737488355328:=by omega
   have hq3:(Je9 mid l c).length+(Jd7 mid l c).length<=140737488355328:=by omega
   have hvR:(iC (Jd7 mid l c)).all CV.isVal=true:=Qi3 _
   have htk:List.take (Jd7 mid l c).length (iC (Jd7 mid l c))=iC (Jd7 mid l c):=List.take_of_length_le (by rw [Jg5];omega)
   refine AW.rg ?_
   have U5:=ca4 U3 e1 e2 (ca4 hwc hgl1 hgl2 (ca4 hq1 hq2 hq3 (ca2 hvR htk)))
   simp only [push_cast,simprocAttr,bxC,c3C,U5]
   apply hK;clear hK
   apply AW.y rfl
   refine AW.rg ?_
   simp only [push_cast,simprocAttr,bxC,c3C,U5]
   apply Ja6
   apply hK;clear hK
   refine AW.rg ?_
   simp only [push_cast,simprocAttr,bxC,c3C,U5]
   apply Jc1
   try simp only [Jb2,Ja3,push_cast,simprocAttr,bxC,c3C,U5]
   first|exact ⟨_,hNx _ _ _ _ _ _,hmu,Weak.same (by simp only [KS,simprocAttr,hw9,Int.natCast_add,Int.cast_ofNat_Int,Int.natCast_one]) (by first|rfl|(simp only [List.append_assoc,List.cons_append,List.nil_append];rfl))⟩|exact ⟨_,hNx ((Je9 mid l c).length+1) 1 _ _ _,hmu,Weak.same (by simp only [KS,simprocAttr,hw9,Int.natCast_add,Int.cast_ofNat_Int,Int.natCast_one]) (by first|rfl|(simp only [List.append_assoc,List.cons_append,List.nil_append];rfl))⟩
  ·have hst:Jp4 prs mid l c=some (Je9 mid l c++Jd7 mid l c,(Je9 mid l c).length,Jo8 prs (Je9 mid l c)+Jo8 prs (Jd7 mid l c)):=by rw [hcu];unfold Vo7;rw [if_neg (fun h=>h.elim g1 g2),hs0];exact if_pos hlt9
   have hNx:=hSI.best h8 hn g3 hst
   have hgl1:(iC (Je9 mid l c)).length=(Je9 mid l c).length:=Jg5 _
   have hgl2:(iC (Jd7 mid l c)).length=(Jd7 mid l c).length:=Jg5 _
   have hq1:(Je9 mid l c).length+(Jd7 mid l c).length<=140737488355327:=by omega
   have hq2:((Je9 mid l c).length+(Jd7 mid l c).length)*8<=140737488355328:=by omega
   have hq3:(Je9 mid l c).length+(Jd7 mid l c).length<=140737488355328:=by omega
   have hvR:(iC (Jd7 mid l c)).all CV.isVal=true:=Qi3 _
   have htk:List.take (Jd7 mid l c).length (iC (Jd7 mid l c))=iC (Jd7 mid l c):=List.take_of_length_le (by rw [Jg5];omega)
   refine AW.rg ?_
   have U6:=ca4 U3 e1 e2 (ca4 hwc hgl1 hgl2 (ca4 hq1 hq2 hq3 (ca4 hvR htk hp0 hlt9)))
   simp only [push_cast,simprocAttr,bxC,c3C,U6]
   apply hK;clear hK
   apply AW.y rfl
   refine AW.rg ?_
   simp only [push_cast,simprocAttr,bxC,c3C,U6]
   apply Ja6
   apply hK;clear hK
   refine AW.rg ?_
   simp only [push_cast,simprocAttr,bxC,c3C,U6]
   apply Jc1
   try simp only [Jb2,Ja3,push_cast,simprocAttr,bxC,c3C,U6]
   first|exact ⟨_,hNx _ _ _ _ _ _,hmu,Weak.same (by simp only [KS,simprocAttr,hw9,Int.natCast_add,Int.cast_ofNat_Int,Int.natCast_one]) (by first|rfl|(simp only [List.append_assoc,List.cons_append,List.nil_append];rfl))⟩|exact ⟨_,hNx ((Je9 mid l c).length+1) 1 _ _ _,hmu,Weak.same (by simp only [KS,simprocAttr,hw9,Int.natCast_add,Int.cast_ofNat_Int,Int.natCast_one]) (by first|rfl|(simp only [List.append_assoc,List.cons_append,List.nil_append];rfl))⟩
  have hst:Jp4 prs mid l c=Jp4 prs mid l (c - 1):=by rw [hcu];unfold Vo7;rw [if_neg (fun h=>h.elim g1 g2),hs0];exact if_neg hlt9
  have hNx:=hSI.stay h8 hst
  refine AW.rg ?_
  have U7:=ca4 U3 e1 e2 (ca3 hwc hp0 hlt9)
  simp only [push_cast,simprocAttr,bxC,c3C,U7]
  apply hK;clear hK
  apply AW.x rfl
  apply AW.z
  apply Ja6
  apply hK;clear hK
  refine AW.rg ?_
  simp only [push_cast,simprocAttr,bxC,c3C,U7]
  apply Jc1
  try simp only [Jb2,Ja3,push_cast,simprocAttr,bxC,c3C,U7]
  first|exact ⟨_,hNx _ _ _ _ _ _,hmu,Weak.same (by simp only [KS,simprocAttr,hw9,Int.natCast_add,Int.cast_ofNat_Int,Int.natCast_one]) (by first|rfl|(simp only [List.append_assoc,List.cons_append,List.nil_append];rfl))⟩|exact ⟨_,hNx ((Je9 mid l c).length+1) 1 _ _ _,hmu,Weak.same (by simp only [KS,simprocAttr,hw9,Int.natCast_add,Int.cast_ofNat_Int,Int.natCast_one]) (by first|rfl|(simp only [List.append_assoc,List.cons_append,List.nil_append];rfl))⟩
 obtain rfl:c=8:=by have:=of_decide_eq_false h62;omega
 apply AW.v
 apply Jb0
 clear hK
 apply Jb0
 apply Ja5
 apply hK;clear hK
 refine AW.q fun K hK=>?_
 refine AW.q fun K hK=>?_
 rcases Qa2 hb9 0 with ⟨hs0,rfl,rfl,rfl⟩|⟨bb,bn,bc,rb,vb,kk,eb,hs0,rfl,hp0,hp1,rfl,rfl,hlk,hlt9⟩|⟨bb,bn,bc,rb,vb,kk,eb,hs0,rfl,hp0,hp1,rfl,rfl,hlk,hlt9⟩
 all_goals (try dsimp only [Nat.add_one_sub_one] at hs0)
 ·have hsp:Jk7 prs mid l=(l,l.length / 2):=by unfold Jk7;rw [if_neg (show ¬Qm2 mid l<=0 from hwd),hs0]
  have hput:m.set r ⟨.grow,3,v,ez,iC (Jv5 o a b l)⟩=m:=by
    rw [show Jv5 o a b l=o from by rw [<-hl];exact Kj7 hab hbo]
    exact set_self hb
  rw [hsp,hput] at hQ
  obtain ⟨L9,hL9⟩:=hMX
  subst hL9
  refine AW.rg ?_
  simp only [push_cast,simprocAttr,bxC,c3C,U3,hd2,hw2,hw3]
  apply hK;clear hK
  apply AW.y rfl
  refine AW.sr 1 fun K hK=>?_
  simp only [push_cast,simprocAttr,bxC,c3C,U3,hd2,hw2,hw3]
  apply hK;clear hK
  refine AW.ret ?_
  apply Jc9
  refine hQ _ _ _ ?_
  first|refine RetP.drop0 (by first|exact Or.inr rfl|exact Or.inl rfl) ?_ ?_ hwf|refine RetP.drop (by first|exact Or.inr rfl|exact Or.inl rfl) ?_ ?_ hwf|refine RetP.dropM (by simp) (by first|exact Or.inr rfl|exact Or.inl rfl) ?_ ?_ (Jr6 hwf (Jg6 _ _) rfl)
  · (simp only [Jd3,Ja7,Jb5,AV.tv,push_cast,simprocAttr])<;>rfl
  rfl
 ·have hsp:Jk7 prs mid l=(bb,bn):=by unfold Jk7;rw [if_neg (show ¬Qm2 mid l<=0 from hwd),hs0]
  rw [hsp] at hQ
  have hok:=Kg5 (prs:=prs) (mid:=mid) (l:=l) 7
  rw [hs0] at hok
  have hbl:bb.length=l.length:=hok.1.length_eq
  have hmin:min bb.length l.length=l.length:=by omega
  have hcp:setL (iC o) a (iC bb)=iC (Jv5 o a b bb):=Qt8 hab hbo (by rw [hbl,<-hl,Jf2 hbo])
  have hbv:=Qi3 bb
  have hbg:(iC bb).length=l.length:=by rw [Jg5,hbl]
  have hbt:List.take l.length (iC bb)=iC bb:=List.take_of_length_le (by omega)
  obtain ⟨L9,hL9⟩:=hMX
  have hset9:∀ B,M.set r B=m.set r B++L9:=fun B=>by rw [hL9];exact List.set_append_left _ _ (by omega)
  refine AW.rg ?_
  have U8:=ca4 U3 hp0 hlk (ca4 hbl hmin hcp (ca4 hbv hbg hbt (ca3 h0 hcl hset9)))
  simp only [push_cast,simprocAttr,bxC,c3C,Nat.min_self,U8]
  apply hK;clear hK
  apply AW.x rfl
  apply AW.z
  apply hK;clear hK
  refine AW.sr 2 fun K hK=>?_
  simp only [push_cast,simprocAttr,bxC,c3C,Nat.min_self,U8]
  apply hK;clear hK
  refine AW.ret ?_
  refine hQ _ _ _ ?_
  first|refine RetP.drop0 (by first|exact Or.inr rfl|exact Or.inl rfl) ?_ ?_ hwf|refine RetP.drop (by first|exact Or.inr rfl|exact Or.inl rfl) ?_ ?_ hwf|refine RetP.dropM (by simp) (by first|exact Or.inr rfl|exact Or.inl rfl) ?_ ?_ (Jr6 hwf (Jg6 _ _) rfl)
  · (simp only [Jd3,Ja7,Jb5,AV.tv,push_cast,simprocAttr])<;>rfl
  rfl
 have hsp:Jk7 prs mid l=(bb,bn):=by unfold Jk7;rw [if_neg (show ¬Qm2 mid l<=0 from hwd),hs0]
 rw [hsp] at hQ
 have hok:=Kg5 (prs:=prs) (mid:=mid) (l:=l) 7
 rw [hs0] at hok
 have hbl:bb.length=l.length:=hok.1.length_eq
 have hmin:min bb.length l.length=l.length:=by omega
 have hcp:setL (iC o) a (iC bb)=iC (Jv5 o a b bb):=Qt8 hab hbo (by rw [hbl,<-hl,Jf2 hbo])
 have hbv:=Qi3 bb
 have hbg:(iC bb).length=l.length:=by rw [Jg5,hbl]
 have hbt:List.take l.length (iC bb)=iC bb:=List.take_of_length_le (by omega)
 obtain ⟨L9,hL9⟩:=hMX
 have hset9:∀ B,M.set r B=m.set r B++L9:=fun B=>by rw [hL9];exact List.set_append_left _ _ (by omega)
 refine AW.rg ?_
 have U9:=ca4 U3 hp0 hlk (ca4 hbl hmin hcp (ca4 hbv hbg hbt (ca3 h0 hcl hset9)))
 simp only [push_cast,simprocAttr,bxC,c3C,Nat.min_self,U9]
 apply hK;clear hK
 apply AW.x rfl
 apply AW.z
 apply hK;clear hK
 refine AW.sr 2 fun K hK=>?_
 simp only [push_cast,simprocAttr,bxC,c3C,Nat.min_self,U9]
 apply hK;clear hK
 refine AW.ret ?_
 refine hQ _ _ _ ?_
 first|refine RetP.drop0 (by first|exact Or.inr rfl|exact Or.inl rfl) ?_ ?_ hwf|refine RetP.drop (by first|exact Or.inr rfl|exact Or.inl rfl) ?_ ?_ hwf|refine RetP.dropM (by simp) (by first|exact Or.inr rfl|exact Or.inl rfl) ?_ ?_ (Jr6 hwf (Jg6 _ _) rfl)
 · (simp only [Jd3,Ja7,Jb5,AV.tv,push_cast,simprocAttr])<;>rfl
 rfl
theorem Vu7 (w:Nat)(c0 c1:CV)(pb pv N mb mv:Nat)(prs:Nat->PR)(mid:Nat->V)(r v a b ez:Nat)(o l:List Nat)(m:Ja1)(hM:MkAt m w c0 c1 pb pv N mb mv prs mid)(hb:m[r]?=some ⟨.grow,3,v,ez,iC o⟩)(hab:a<b)(hbo:b<=o.length)(ho:∀ x,x<o.length->o.getD x 0<N)(hol:o.length<=128)(hl:Jk3 o a b=l):Ctr Tryz.prog 228 [.one (.ptr w 0 0),.one (.sl r v a l.length)] m (.one (.int .i64 (((Jk7 prs mid l).2:Nat):Int))) (m.set r ⟨.grow,3,v,ez,iC (Jv5 o a b (Jk7 prs mid l).1)⟩):=by
 by_cases hwd:Jq4 mid l (Jh3 (Jq4 mid l))<=0
 ·have hsp:Jk7 prs mid l=(l,l.length / 2):=by unfold Jk7;exact if_pos (show Qm2 mid l<=0 from hwd)
  have hput:m.set r ⟨.grow,3,v,ez,iC (Jv5 o a b l)⟩=m:=by
   rw [show Jv5 o a b l=o from by rw [<-hl];exact Kj7 hab hbo]
   exact set_self hb
  rw [hsp,hput]
  exact Vf2 w c0 c1 pb pv N mb mv prs mid r v a b ez o l m hM hb hab hbo ho hol hl hwd
 exact Vf1 w c0 c1 pb pv N mb mv prs mid r v a b ez o l m hM hb hab hbo ho hol hl hwd
def ndC (d:ND):List CV:=prC d.p++[.int .i64 d.left,.int .i64 d.right,.int .i64 d.first,.int .i64 d.count]
def nd0:ND:=⟨⟨⟨fun _=>0,fun _=>0⟩,⟨fun _=>0,fun _=>0⟩⟩,0,0,0,0⟩
def ndL (l:List ND):List CV:=Jb6 l.length fun i=>ndC (l.getD i nd0)
theorem Kk0 (l:List ND):(ndL l).length=l.length*16:=Ja9 (w:=16) (fun _=>rfl) _
theorem catC_congr {F G:Nat->List CV}:∀ {n:Nat},(∀ i,i<n->F i=G i)->Jb6 n F=Jb6 n G
 | 0,_=>rfl
 | n+1,h=>by show Jb6 n F++F n=Jb6 n G++G n;rw [catC_congr fun i hi=>h i (by omega),h n (by omega)]
theorem Vi7 (l:List ND)(d:ND):ndL l++ndC d=ndL (l++[d]):=by
 unfold ndL
 rw [List.length_append,List.length_singleton]
 show _=Jb6 l.length _++ndC ((l++[d]).getD l.length nd0)
 have e:(l++[d]).getD l.length nd0=d:=by rw [List.getD_eq_getElem?_getD,List.getElem?_append_right (Nat.le_refl _),Nat.sub_self];rfl
 rw [e]
 congr 1
 exact catC_congr fun i hi=>by rw [List.getD_eq_getElem?_getD,List.getD_eq_getElem?_getD,List.getElem?_append_left hi]
theorem catC_set {F G:Nat->List CV}{w:Nat}(hF:∀ i,(F i).length=w){i k:Nat}{x:CV}(hk:k<w)(hG:G i=(F i).set k x):∀ {n:Nat},(∀ j,j≠i->G j=F j)->i<n->(Jb6 n F).set (i*w+k) x=Jb6 n G
 | 0,_,h=>by omega
 | n+1,hj,h=>by
  have hl:=Ja9 (w:=w) (F:=F) hF n
  show (Jb6 n F++F n).set _ x=Jb6 n G++G n
  by_cases e:i=n
  ·subst e
   rw [List.set_append_right _ _ (by omega),hl,Nat.add_sub_cancel_left,hG]
   congr 1
   exact catC_congr fun j q=>(hj j (by omega)).symm
  have hle:(i+1)*w<=n*w:=Nat.mul_le_mul_right w (by omega)
  rw [Nat.add_mul,Nat.one_mul] at hle
  rw [List.set_append_left _ _ (by omega),catC_set hF hk hG hj (by omega),hj n (by omega)]
theorem Qy5 {l:List ND}{i k:Nat}{d d':ND}{x:CV}(hi:l[i]?=some d)(hk:k<16)(hd:ndC d'=(ndC d).set k x):(ndL l).set (i*16+k) x=ndL (l.set i d'):=by
 have hlt:=(List.getElem?_eq_some_iff.1 hi).1
 unfold ndL
 rw [List.length_set]
 refine catC_set (w:=16) (fun _=>rfl) hk ?_ ?_ hlt
 ·rw [List.getD_eq_getElem?_getD,List.getD_eq_getElem?_getD,List.getElem?_set_self hlt,hi];exact hd
 intro j hj
 rw [List.getD_eq_getElem?_getD,List.getD_eq_getElem?_getD,List.getElem?_set_ne (by omega)]
structure TB where
 (w nb r pb pv N mb mv v ez:Nat)
def TB.wC (T:TB)(st:List Nat × List ND):List CV:=[.sl T.nb st.2.length 0 st.2.length,.sl T.r T.v 0 st.1.length,.sl T.pb T.pv 0 T.N,.sl T.mb T.mv 0 T.N]
def tM (m:Ja1)(T:TB)(st:List Nat × List ND):Ja1:=((m.set T.w ⟨.fix,314,0,0,T.wC st⟩).set T.nb ⟨.grow,255,st.2.length,16,ndL st.2⟩).set T.r ⟨.grow,3,T.v,T.ez,iC st.1⟩
structure TmP (T:TB)(prs:Nat->PR)(mid:Nat->V)(m M:Ja1)(st:List Nat × List ND):Prop where
 len:m.length<=M.length
 old:∀ i,i<m.length->i≠T.w->i≠T.nb->i≠T.r->M[i]?=m[i]?
 hw:M[T.w]?=some ⟨.fix,314,0,0,T.wC st⟩
 hn:M[T.nb]?=some ⟨.grow,255,st.2.length,16,ndL st.2⟩
 hr:M[T.r]?=some ⟨.grow,3,T.v,T.ez,iC st.1⟩
structure TbOk (T:TB)(prs:Nat->PR)(mid:Nat->V)(m:Ja1):Prop where
 lw:T.w<m.length
 ln:T.nb<m.length
 lr:T.r<m.length
 d1:T.w≠T.nb
 d2:T.w≠T.r
 d3:T.nb≠T.r
 d4:T.pb≠T.w/\T.pb≠T.nb/\T.pb≠T.r
 d5:T.mb≠T.w/\T.mb≠T.nb/\T.mb≠T.r
 hp:∃ k ez,m[T.pb]?=some ⟨k,234,T.pv,ez,Jb6 T.N (prF prs)⟩
 hm:∃ k ez,m[T.mb]?=some ⟨k,59,T.mv,ez,Jb6 T.N (vF mid)⟩
 n:T.N<=128
theorem Kp5 (m:Ja1)(T:TB)(st:List Nat × List ND):(tM m T st).length=m.length:=by unfold tM;rw [List.length_set,List.length_set,List.length_set]
theorem TmP.ext {T:TB}{prs:Nat->PR}{mid:Nat->V}{m M:Ja1}{st:List Nat × List ND}(h:TmP T prs mid m M st)(hT:TbOk T prs mid m):∃ L,M=tM m T st++L:=by
 refine ⟨M.drop m.length,List.ext_getElem? fun i=>?_⟩
 by_cases hi:i<m.length
 ·rw [List.getElem?_append_left (by rw [Kp5];exact hi)]
  unfold tM
  by_cases e1:i=T.r
  ·subst e1;rw [h.hr,List.getElem?_set_self (by rw [List.length_set,List.length_set];exact hi)]
  rw [List.getElem?_set_ne (by omega)]
  by_cases e2:i=T.nb
  ·subst e2;rw [h.hn,List.getElem?_set_self (by rw [List.length_set];exact hi)]
  rw [List.getElem?_set_ne (by omega)]
  by_cases e3:i=T.w
  ·subst e3;rw [h.hw,List.getElem?_set_self hi]
  rw [List.getElem?_set_ne (by omega)];exact h.old i hi e3 e2 e1
 rw [List.getElem?_append_right (by rw [Kp5];omega),Kp5,List.getElem?_drop]
 congr 1;omega
theorem TmP.mk' {T:TB}{prs:Nat->PR}{mid:Nat->V}{m M:Ja1}{st:List Nat × List ND}(h:TmP T prs mid m M st)(hT:TbOk T prs mid m):MkAt M T.w (.sl T.nb st.2.length 0 st.2.length) (.sl T.r T.v 0 st.1.length) T.pb T.pv T.N T.mb T.mv prs mid where
 hw:=h.hw
 hp:=by obtain ⟨k,e,q⟩:=hT.hp;exact ⟨k,e,by rw [h.old _ (Jb4 q) hT.d4.1 hT.d4.2.1 hT.d4.2.2];exact q⟩
 hm:=by obtain ⟨k,e,q⟩:=hT.hm;exact ⟨k,e,by rw [h.old _ (Jb4 q) hT.d5.1 hT.d5.2.1 hT.d5.2.2];exact q⟩
 n:=hT.n
theorem TmP.ok {T:TB}{prs:Nat->PR}{mid:Nat->V}{m M:Ja1}{st:List Nat × List ND}(h:TmP T prs mid m M st)(hT:TbOk T prs mid m):TbOk T prs mid M where
 lw:=Nat.lt_of_lt_of_le hT.lw h.len
 ln:=Nat.lt_of_lt_of_le hT.ln h.len
 lr:=Nat.lt_of_lt_of_le hT.lr h.len
 d1:=hT.d1
 d2:=hT.d2
 d3:=hT.d3
 d4:=hT.d4
 d5:=hT.d5
 hp:=(h.mk' hT).hp
 hm:=(h.mk' hT).hm
 n:=hT.n
theorem TmP.app {T:TB}{prs:Nat->PR}{mid:Nat->V}{m M:Ja1}{st:List Nat × List ND}(h:TmP T prs mid m M st)(hT:TbOk T prs mid m)(L:Ja1):TmP T prs mid m (M++L) st where
 len:=by rw [List.length_append];have:=h.len;omega
 old:=fun i hi h1 h2 h3=>by rw [List.getElem?_append_left (Nat.lt_of_lt_of_le hi h.len)];exact h.old i hi h1 h2 h3
 hw:=Ja8 h.hw L
 hn:=Ja8 h.hn L
 hr:=Ja8 h.hr L
theorem TmP.put {T:TB}{prs:Nat->PR}{mid:Nat->V}{m M:Ja1}{st:List Nat × List ND}(h:TmP T prs mid m M st)(hT:TbOk T prs mid m)(st':List Nat × List ND):TmP T prs mid m (tM M T st') st' where
 len:=by rw [Kp5];exact h.len
 old:=fun i hi h1 h2 h3=>by
  unfold tM
  rw [List.getElem?_set_ne (by omega),List.getElem?_set_ne (by omega),List.getElem?_set_ne (by omega)]
  exact h.old i hi h1 h2 h3
 hw:=by
  have:=(h.ok hT).lw
  unfold tM
  rw [List.getElem?_set_ne (fun e=>hT.d2 e.symm),List.getElem?_set_ne (fun e=>hT.d1 e.symm),List.getElem?_set_self this]
 hn:=by
  have:=(h.ok hT).ln
  unfold tM
  rw [List.getElem?_set_ne (fun e=>hT.d3 e.symm),List.getElem?_set_self (by rw [List.length_set];exact this)]
 hr:=by
  have:=(h.ok hT).lr
  unfold tM
  rw [List.getElem?_set_self (by rw [List.length_set,List.length_set];exact this)]
theorem Jt4 {prs:Nat->PR}{mid:Nat->V}:∀ (f a b:Nat) (st:List Nat × List ND),b - a<=f->a<b->b<=st.1.length->(Js2 prs mid f a b st).2.length+1<=st.2.length+2*(b - a)
 | 0,a,b,st,hf,hab,_=>by omega
 | f+1,a,b,(o,nds),hf,hab,hb=>by
  have hb':b<=o.length:=hb
  unfold Js2
  by_cases h4:b - a<=4
  ·rw [if_pos h4];show (nds++[_]).length+1<=nds.length+2*(b - a);rw [List.length_append,List.length_singleton];omega
  rw [if_neg h4]
  have hsl:=Jf2 (a:=a) hb'
  obtain ⟨hperm,hm0,hm1⟩:=Kr7 (prs:=prs) (mid:=mid) (l:=Jk3 o a b) (by omega)
  obtain ⟨sp,hsp⟩:∃ sp,sp=Jk7 prs mid (Jk3 o a b):=⟨_,rfl⟩
  rw [<-hsp] at hperm hm0 hm1 ⊢
  rw [hsl] at hm1
  have hl1:sp.1.length=b - a:=by rw [hperm.length_eq,hsl]
  have ol1:(Jv5 o a b sp.1).length=o.length:=Kb9 (by omega) hb' hl1
  obtain ⟨s0,hs0⟩:∃ s0,s0=(Jv5 o a b sp.1,nds++[(⟨Jc3 prs (Jk3 o a b),-1,-1,0,0⟩:ND)]):=⟨_,rfl⟩
  have e1:s0.1.length=o.length:=by rw [hs0];exact ol1
  have e2:s0.2.length=nds.length+1:=by rw [hs0];simp
  dsimp only
  rw [<-hs0]
  have k1:=Jz7 (prs:=prs) (mid:=mid) f a (a+sp.2) s0 (by omega) (by omega) (by omega)
  have c1:=Jt4 (prs:=prs) (mid:=mid) f a (a+sp.2) s0 (by omega) (by omega) (by omega)
  have c2:=Jt4 (prs:=prs) (mid:=mid) f (a+sp.2) b (Js2 prs mid f a (a+sp.2) s0) (by omega) (by omega) (by rw [k1.len];omega)
  rw [List.length_set]
  omega
theorem Qu1 {o o':List Nat}{a b N:Nat}(h:Vt5 o o' a b)(hl:o'.length=o.length)(hb:b<=o.length)(ho:∀ x,x<o.length->o.getD x 0<N):∀ x,x<o'.length->o'.getD x 0<N:=fun x hx=>by
 by_cases q:x<a\/b<=x
 ·rw [List.getD_eq_getElem?_getD,h.2 x q,<-List.getD_eq_getElem?_getD];exact ho x (by omega)
 have h1:=Kb1 (o:=o') (a:=a) (b:=b) (x:=x) (by omega) (by omega)
 have h2:o'.getD x 0 ∈ Jk3 o a b:=h.1.mem_iff.2 (List.mem_of_getElem? (by rw [h1,List.getD_eq_getElem?_getD,List.getElem?_eq_getElem hx];rfl))
 obtain ⟨k,hk,e⟩:=List.getElem_of_mem h2
 have h3:=Jw1 (o:=o) (a:=a) (b:=b) (i:=k) (by rw [Jf2 hb] at hk;omega)
 rw [List.getD_eq_getElem?_getD,List.getElem?_eq_getElem hk] at h3
 have h3:(Jk3 o a b)[k]=o.getD (a+k) 0:=h3
 rw [<-e,h3]
 exact ho _ (by rw [Jf2 hb] at hk;omega)
theorem Xm7 {o l:List Nat}{a b N:Nat}(hab:a<b)(hb:b<=o.length)(hp:l.Perm (Jk3 o a b))(ho:∀ x,x<o.length->o.getD x 0<N):∀ x,x<(Jv5 o a b l).length->(Jv5 o a b l).getD x 0<N:=by
 have hl:l.length=b - a:=by rw [hp.length_eq,Jf2 hb]
 refine Qu1 (a:=a) (b:=b) ⟨?_,fun x hx=>Qh0 hb (by omega) hl hx⟩ (Kb9 (by omega) hb hl) hb ho
 have e:Jk3 (Jv5 o a b l) a b=l:=by
  refine List.ext_getElem? fun i=>?_
  have ol:=Kb9 (o:=o) (a:=a) (b:=b) (by omega) hb hl
  by_cases hi:i<b - a
  ·have:=Kb1 (o:=Jv5 o a b l) (a:=a) (b:=b) (x:=a+i) (by omega) (by omega)
   rw [show a+i - a=i by omega] at this
   rw [this,Qx1 hb (by omega) hl (by omega) (by omega),show a+i - a=i by omega]
  rw [List.getElem?_eq_none (by rw [Jf2 (by omega)];omega),List.getElem?_eq_none (by omega)]
 rw [e];exact hp.symm
theorem TmP.snoc {T:TB}{prs:Nat->PR}{mid:Nat->V}{m:Ja1}{o:List Nat}{nds:List ND}(hP:TmP T prs mid m m (o,nds))(hT:TbOk T prs mid m)(d:ND)(X:Ja1):TmP T prs mid m ((m.set T.nb ⟨.grow,255,nds.length+1,16,ndL nds++ndC d⟩).set T.w ⟨.fix,314,0,0,[.sl T.nb (nds.length+1) 0 (nds.length+1),.sl T.r T.v 0 o.length,.sl T.pb T.pv 0 T.N,.sl T.mb T.mv 0 T.N]⟩++X) (o,nds++[d]):=by
 have hl:(nds++[d]).length=nds.length+1:=by simp
 refine TmP.app ⟨by simp,fun i hi h1 h2 h3=>?_,?_,?_,?_⟩ hT X
 ·rw [List.getElem?_set_ne (by omega),List.getElem?_set_ne (by omega)]
 ·rw [List.getElem?_set_self (by rw [List.length_set];exact hT.lw)]
  show some _=some (Blk.mk _ _ _ _ [.sl T.nb (nds++[d]).length 0 (nds++[d]).length,_,_,_])
  rw [hl]
 ·rw [List.getElem?_set_ne hT.d1,List.getElem?_set_self hT.ln]
  show some _=some (Blk.mk _ _ (nds++[d]).length _ (ndL (nds++[d])))
  rw [hl,Vi7]
 rw [List.getElem?_set_ne hT.d2,List.getElem?_set_ne hT.d3];exact hP.hr
theorem TmP.two {T:TB}{prs:Nat->PR}{mid:Nat->V}{m M:Ja1}{o:List Nat}{ns:List ND}(hM:TmP T prs mid m M (o,ns))(hT:TbOk T prs mid m){i k1 k2 n:Nat}{d d1 d2:ND}{x1 x2:CV}(hn:ns.length=n)(hi:ns[i]?=some d)(hk1:k1<16)(hk2:k2<16)(h1:ndC d1=(ndC d).set k1 x1)(h2:ndC d2=(ndC d1).set k2 x2) :
  TmP T prs mid m ((M.set T.nb ⟨.grow,255,n,16,(ndL ns).set (i*16+k1) x1⟩).set T.nb ⟨.grow,255,n,16,((ndL ns).set (i*16+k1) x1).set (i*16+k2) x2⟩) (o,ns.set i d2):=by
 have hlt:=(List.getElem?_eq_some_iff.1 hi).1
 have e1:=Qy5 hi hk1 h1
 have e2:=Qy5 (l:=ns.set i d1) (List.getElem?_set_self hlt) hk2 h2
 rw [List.set_set] at e2
 rw [e1,e2,List.set_set]
 subst hn
 have hl:(ns.set i d2).length=ns.length:=List.length_set
 refine ⟨by rw [List.length_set];exact hM.len,fun j hj g1 g2 g3=>?_,?_,?_,?_⟩
 ·rw [List.getElem?_set_ne (by omega)];exact hM.old j hj g1 g2 g3
 ·rw [List.getElem?_set_ne (fun e=>hT.d1 e.symm),hM.hw]
  show some _=some (Blk.mk _ _ _ _ [.sl T.nb (ns.set i d2).length 0 (ns.set i d2).length,_,_,_])
  rw [hl];rfl
 ·rw [List.getElem?_set_self (hM.ok hT).ln]
  show some _=some (Blk.mk _ _ (ns.set i d2).length _ _)
  rw [hl]
 rw [List.getElem?_set_ne hT.d3];exact hM.hr
theorem Xi8 {m:Ja1}{T:TB}{prs:Nat->PR}{mid:Nat->V}(hT:TbOk T prs mid m)(h:MWf m.length m)(st:List Nat × List ND):MWf m.length (tM m T st):=by
 obtain ⟨_,_,q1⟩:=hT.hp
 obtain ⟨_,_,q2⟩:=hT.hm
 have l1:=Jb4 q1
 have l2:=Jb4 q2
 have l3:=hT.ln
 have l4:=hT.lr
 refine Jr6 (Jr6 (Jr6 h ?_ rfl) (Jc2 _ (fun _=>rfl) _) rfl) (Jg6 _ _) rfl
 simp [TB.wC,CV.below];omega
theorem Vf4 {l:List ND}{d d':ND}:(l++[d]).set l.length d'=l++[d']:=by
 rw [List.set_append_right _ _ (Nat.le_refl _),Nat.sub_self];rfl
theorem Xb1 (T:TB)(prs:Nat->PR)(mid:Nat->V)(a b:Nat)(o:List Nat)(nds:List ND)(m:Ja1)(hT:TbOk T prs mid m)(hP:TmP T prs mid m m (o,nds))(hab:a<b)(hbo:b<=o.length)(ho:∀ x,x<o.length->o.getD x 0<T.N)(hol:o.length<=128)(hnd:nds.length<=1000)(h4:b - a<=4):Ctr Tryz.prog 184 [.one (.ptr T.w 0 0),.one (.int .i64 ((a:Int))),.one (.int .i64 ((b:Int)))] m (.one (.int .i64 (nds.length:Int))) (tM m T (o,nds++[⟨Jc3 prs (Jk3 o a b),-1,-1,(a:Int),((b - a:Nat):Int)⟩])):=by
 refine Ctr.en Tryz.func184 [.tmp 6] 96 fun hwf Q hQ=>?_
 obtain ⟨l,hl⟩:∃ l,l=Jk3 o a b:=⟨_,rfl⟩
 have hll:b - a=l.length:=by rw [hl,Jf2 hbo]
 have hw:m[T.w]?=some ⟨.fix,314,0,0,[.sl T.nb nds.length 0 nds.length,.sl T.r T.v 0 o.length,.sl T.pb T.pv 0 T.N,.sl T.mb T.mv 0 T.N]⟩:=hP.hw
 have hn:m[T.nb]?=some ⟨.grow,255,nds.length,16,ndL nds⟩:=hP.hn
 have hr:m[T.r]?=some ⟨.grow,3,T.v,T.ez,iC o⟩:=hP.hr
 have lw:=hT.lw
 have ln:=hT.ln
 have lr:=hT.lr
 have d1:=hT.d1
 have d2:=hT.d2
 have d3:=hT.d3
 have d1s:=d1.symm
 have d2s:=d2.symm
 have d3s:=d3.symm
 have hI:IdsAt m T.r T.v a l T.N:=by rw [hl];exact Kr6 ⟨_,_,hr⟩ (by omega) hbo ho hol
 have hMk:=hP.mk' hT
 dsimp only at hMk
 have h0:0<l.length:=by omega
 have ol:(iC o).length=o.length:=Jg5 _
 have nl:(ndL nds).length=nds.length*16:=Kk0 _
 have n1:(0:Int)<=(a:Int):=by omega
 have n2:(a:Int)<=(b:Int):=by omega
 have n3:(b:Int)<=(o.length:Int):=by omega
 have q1:nds.length<=140737488355327:=by omega
 have q2:(nds.length+1)*128<=140737488355328:=by omega
 have hs1:∀ B (X:Ja1),(m++X).set T.nb B=m.set T.nb B++X:=fun B X=>List.set_append_left _ _ ln
 have hs2:∀ B (X:Ja1),(m++X).set T.w B=m.set T.w B++X:=fun B X=>List.set_append_left _ _ lw
 have hkw:∀ B (X:Ja1),(m.set T.nb B++X)[T.w]?=some ⟨.fix,314,0,0,[.sl T.nb nds.length 0 nds.length,.sl T.r T.v 0 o.length,.sl T.pb T.pv 0 T.N,.sl T.mb T.mv 0 T.N]⟩:=fun B X=>by rw [List.getElem?_append_left (by rw [List.length_set];exact lw),List.getElem?_set_ne d1s];exact hw
 have hs3:∀ B C (X:Ja1),(m.set T.nb B++X).set T.w C=(m.set T.nb B).set T.w C++X:=fun B C X=>List.set_append_left _ _ (by rw [List.length_set];exact lw)
 have hlt0:∀ k,¬m.length+k<m.length:=fun k=>by omega
 rw [<-hl,hll] at hQ
 have h4i:(l.length:Int)<=4:=by omega
 have U1:=ca4 hw (Ja8 hw) hn (ca4 (Ja8 hn) hr (Ja8 hr) (ca4 ol nl n1 (ca4 n2 n3 q1 (ca4 q2 hs1 hs2 (ca4 hkw hs3 d1 (ca4 d2 d3 d1s (ca4 d2s d3s hll (ca4 @Kf9 @Je7 @Ja4 h4i))))))))
 refine AW.c 3 U1 Z0 ?_
 refine AW.d [.val,.val,.val,.val,.val,.rd 0,.val,.val,.ext,.val,.ext,.wr,.val,.val,.val,.wr] fol U1 (Kh9 T.w (.sl T.nb nds.length 0 nds.length) (.sl T.r T.v 0 o.length) T.pb T.pv T.N T.mb T.mv prs mid T.r T.v a l _ hMk hI h0) ?_
 refine AW.q fun K hK=>?_
 refine AW.anyMemG (fun M=>TmP T prs mid m M (o,nds++[(⟨Jc3 prs l,-1,-1,0,0⟩:ND)])) (hP.snoc hT (⟨Jc3 prs l,-1,-1,0,0⟩:ND) _) fun M hM=>?_
 have hwM:M[T.w]?=some ⟨.fix,314,0,0,[.sl T.nb (nds++[(⟨Jc3 prs l,-1,-1,0,0⟩:ND)]).length 0 (nds++[(⟨Jc3 prs l,-1,-1,0,0⟩:ND)]).length,.sl T.r T.v 0 o.length,.sl T.pb T.pv 0 T.N,.sl T.mb T.mv 0 T.N]⟩:=hM.hw
 have hnM:M[T.nb]?=some ⟨.grow,255,(nds++[(⟨Jc3 prs l,-1,-1,0,0⟩:ND)]).length,16,ndL (nds++[(⟨Jc3 prs l,-1,-1,0,0⟩:ND)])⟩:=hM.hn
 have hnl:(nds++[(⟨Jc3 prs l,-1,-1,0,0⟩:ND)]).length=nds.length+1:=by simp
 rw [hnl] at hwM hnM
 have hML:(ndL (nds++[(⟨Jc3 prs l,-1,-1,0,0⟩:ND)])).length=(nds.length+1)*16:=by rw [Kk0,hnl]
 have hMl:=hM.len
 have hkn:∀ B,(M.set T.nb B)[T.nb]?=some B:=fun B=>List.getElem?_set_self (by omega)
 have hkW:∀ B,(M.set T.nb B)[T.w]?=M[T.w]?:=fun B=>List.getElem?_set_ne d1s
 have u1:(0:Int)<=(nds.length:Int):=by omega
 have u2:(nds.length:Int)<(nds.length:Int)+1:=by omega
 have u3:nds.length*16+16<=(nds.length+1)*16:=by omega
 have u4:nds.length<nds.length+1:=by omega
 have u5:nds.length*16+15<=(nds.length+1)*16:=by omega
 refine AW.c 1 U1 Z0 ?_
 apply AW.y rfl
 have U2:=ca4 U1 hwM hnM (ca4 hML hkn hkW (ca4 u1 u2 u3 (ca2 u4 u5)))
 refine AW.d [.val,.val,.val,.val,.rd 0,.val,.val,.val,.val,.val,.rd 0,.val,.val,.val,.val,.val,.val,.wr,.val,.val,.wr] fol U2 Z0 ?_
 refine AW.anyMemG (fun M=>∃ L,M=tM m T (o,nds++[(⟨Jc3 prs l,-1,-1,(a:Int),(l.length:Int)⟩:ND)])++L) ?_ fun M hM=>?_
 · have:=(hM.two hT (i:=nds.length) (k1:=14) (k2:=15) (x1:=.int .i64 (a:Int)) (x2:=.int .i64 (l.length:Int)) (d:=(⟨Jc3 prs l,-1,-1,0,0⟩:ND)) (d1:=⟨Jc3 prs l,-1,-1,(a:Int),0⟩) (d2:=(⟨Jc3 prs l,-1,-1,(a:Int),(l.length:Int)⟩:ND)) hnl (by rw [List.getElem?_append_right (Nat.le_refl _),Nat.sub_self];rfl) (by decide) (by decide) rfl rfl).ext hT
   rw [Vf4] at this
   exact this
 obtain ⟨L9,rfl⟩:=hM
 refine AW.c 1 U2 Z0 ?_
 refine AW.ret ?_
 apply Jc9
 refine hQ _ _ _ ?_
 refine RetP.dropM (Kp5 _ _ _) (by first|exact Or.inr rfl|exact Or.inl rfl) ?_ ?_ (Xi8 hT hwf _)
 · (simp only [Jd3,Ja7,Jb5,AV.tv,push_cast,simprocAttr])<;>rfl
 rfl
theorem TmP.order {T:TB}{prs:Nat->PR}{mid:Nat->V}{m M:Ja1}{o o':List Nat}{ns:List ND}(h:TmP T prs mid m M (o,ns))(hT:TbOk T prs mid m)(ho:o'.length=o.length):TmP T prs mid m (M.set T.r ⟨.grow,3,T.v,T.ez,iC o'⟩) (o',ns) where
 len:=by rw [List.length_set];exact h.len
 old:=fun i hi h1 h2 h3=>by rw [List.getElem?_set_ne (by omega)];exact h.old i hi h1 h2 h3
 hw:=by
  rw [List.getElem?_set_ne (fun e=>hT.d2 e.symm),h.hw]
  show some (Blk.mk _ _ _ _ [_,.sl T.r T.v 0 o.length,_,_])=some (Blk.mk _ _ _ _ [_,.sl T.r T.v 0 o'.length,_,_])
  rw [ho]
 hn:=by rw [List.getElem?_set_ne (fun e=>hT.d3 e.symm)];exact h.hn
 hr:=List.getElem?_set_self (h.ok hT).lr
theorem TmP.self {T:TB}{prs:Nat->PR}{mid:Nat->V}{m M:Ja1}{st:List Nat × List ND}(h:TmP T prs mid m M st):TmP T prs mid M M st:=⟨Nat.le_refl _,fun _ _ _ _ _=>rfl,h.hw,h.hn,h.hr⟩
theorem Xb0 (T:TB)(prs:Nat->PR)(mid:Nat->V)(a b:Nat)(o:List Nat)(nds:List ND)(m:Ja1)(hT:TbOk T prs mid m)(hP:TmP T prs mid m m (o,nds))(hab:a<b)(hbo:b<=o.length)(ho:∀ x,x<o.length->o.getD x 0<T.N)(hol:o.length<=128)(f:Nat)(hf:b - a<=f+1)(hnd:nds.length+2*(b - a)<=1000)(h4:¬b - a<=4)(ih:∀ (a b:Nat) (st:List Nat × List ND) (m:Ja1),b - a<=f->a<b->b<=st.1.length->(∀ x,x<st.1.length->st.1.getD x 0<T.N)->st.1.length<=128->st.2.length+2*(b - a)<=1000->TbOk T prs mid m->TmP T prs mid m m st->Ctr Tryz.prog 184 [.one (.ptr T.w 0 0),.one (.int .i64 ((a:Int))),.one (.int .i64 ((b:Int)))] m (.one (.int .i64 (st.2.length:Int))) (tM m T (Js2 prs mid f a b st))):Ctr Tryz.prog 184 [.one (.ptr T.w 0 0),.one (.int .i64 ((a:Int))),.one (.int .i64 ((b:Int)))] m (.one (.int .i64 (nds.length:Int))) (tM m T (Js2 prs mid (f+1) a b (o,nds))):=by
 refine Ctr.en Tryz.func184 [.tmp 6] 96 fun hwf Q hQ=>?_
 obtain ⟨l,hl⟩:∃ l,l=Jk3 o a b:=⟨_,rfl⟩
 have hll:b - a=l.length:=by rw [hl,Jf2 hbo]
 have hw:m[T.w]?=some ⟨.fix,314,0,0,[.sl T.nb nds.length 0 nds.length,.sl T.r T.v 0 o.length,.sl T.pb T.pv 0 T.N,.sl T.mb T.mv 0 T.N]⟩:=hP.hw
 have hn:m[T.nb]?=some ⟨.grow,255,nds.length,16,ndL nds⟩:=hP.hn
 have hr:m[T.r]?=some ⟨.grow,3,T.v,T.ez,iC o⟩:=hP.hr
 have lw:=hT.lw
 have ln:=hT.ln
 have lr:=hT.lr
 have d1:=hT.d1
 have d2:=hT.d2
 have d3:=hT.d3
 have d1s:=d1.symm
 have d2s:=d2.symm
 have d3s:=d3.symm
 have hI:IdsAt m T.r T.v a l T.N:=by rw [hl];exact Kr6 ⟨_,_,hr⟩ (by omega) hbo ho hol
 have hMk:=hP.mk' hT
 dsimp only at hMk
 have h0:0<l.length:=by omega
 have ol:(iC o).length=o.length:=Jg5 _
 have nl:(ndL nds).length=nds.length*16:=Kk0 _
 have n1:(0:Int)<=(a:Int):=by omega
 have n2:(a:Int)<=(b:Int):=by omega
 have n3:(b:Int)<=(o.length:Int):=by omega
 have q1:nds.length<=140737488355327:=by omega
 have q2:(nds.length+1)*128<=140737488355328:=by omega
 have hs1:∀ B (X:Ja1),(m++X).set T.nb B=m.set T.nb B++X:=fun B X=>List.set_append_left _ _ ln
 have hs2:∀ B (X:Ja1),(m++X).set T.w B=m.set T.w B++X:=fun B X=>List.set_append_left _ _ lw
 have hkw:∀ B (X:Ja1),(m.set T.nb B++X)[T.w]?=some ⟨.fix,314,0,0,[.sl T.nb nds.length 0 nds.length,.sl T.r T.v 0 o.length,.sl T.pb T.pv 0 T.N,.sl T.mb T.mv 0 T.N]⟩:=fun B X=>by rw [List.getElem?_append_left (by rw [List.length_set];exact lw),List.getElem?_set_ne d1s];exact hw
 have hs3:∀ B C (X:Ja1),(m.set T.nb B++X).set T.w C=(m.set T.nb B).set T.w C++X:=fun B C X=>List.set_append_left _ _ (by rw [List.length_set];exact lw)
 have hlt0:∀ k,¬m.length+k<m.length:=fun k=>by omega
 have h4i:¬(l.length:Int)<=4:=by omega
 obtain ⟨hperm,hm0,hm1⟩:=Kr7 (prs:=prs) (mid:=mid) (l:=l) (by omega)
 obtain ⟨sp,hsp⟩:∃ sp,sp=Jk7 prs mid l:=⟨_,rfl⟩
 rw [<-hsp] at hperm hm0 hm1
 have hlb:sp.1.length=b - a:=by rw [hperm.length_eq];omega
 have ol1:(Jv5 o a b sp.1).length=o.length:=Kb9 (by omega) hbo hlb
 have nl1:(nds++[(⟨Jc3 prs l,-1,-1,0,0⟩:ND)]).length=nds.length+1:=by simp
 obtain ⟨mm,hmm⟩:∃ mm,mm=a+sp.2:=⟨_,rfl⟩
 have hw7:IntKind.i64.wrap ((a:Int)+(sp.2:Int))=(mm:Int):=by rw [show (a:Int)+(sp.2:Int)=(mm:Int) by omega];exact wi (by omega)
 have k1:=Jz7 (prs:=prs) (mid:=mid) f a mm (Jv5 o a b sp.1,(nds++[(⟨Jc3 prs l,-1,-1,0,0⟩:ND)])) (by omega) (by omega) (by show _<=(Jv5 o a b sp.1).length;omega)
 have c1:=Jt4 (prs:=prs) (mid:=mid) f a mm (Jv5 o a b sp.1,(nds++[(⟨Jc3 prs l,-1,-1,0,0⟩:ND)])) (by omega) (by omega) (by show _<=(Jv5 o a b sp.1).length;omega)
 obtain ⟨s1,hs1e⟩:∃ s1,s1=Js2 prs mid f a mm (Jv5 o a b sp.1,(nds++[(⟨Jc3 prs l,-1,-1,0,0⟩:ND)])):=⟨_,rfl⟩
 rw [<-hs1e] at k1 c1
 have sl1:s1.1.length=o.length:=k1.len.trans ol1
 have q5:(nds++[(⟨Jc3 prs l,-1,-1,0,0⟩:ND)]).length<s1.2.length:=k1.lt
 have c1':s1.2.length+1<=(nds++[(⟨Jc3 prs l,-1,-1,0,0⟩:ND)]).length+2*(mm - a):=c1
 have k2:=Jz7 (prs:=prs) (mid:=mid) f mm b s1 (by omega) (by omega) (by omega)
 have c2:=Jt4 (prs:=prs) (mid:=mid) f mm b s1 (by omega) (by omega) (by omega)
 obtain ⟨s2,hs2e⟩:∃ s2,s2=Js2 prs mid f mm b s1:=⟨_,rfl⟩
 rw [<-hs2e] at k2 c2
 have q6:=k2.lt
 have ho1:∀ x,x<(Jv5 o a b sp.1).length->(Jv5 o a b sp.1).getD x 0<T.N:=Xm7 hab hbo (hl ▸ hperm) ho
 have ho2:∀ x,x<s1.1.length->s1.1.getD x 0<T.N:=Qu1 k1.same k1.len (by show _<=(Jv5 o a b sp.1).length;omega) ho1
 have hs2d:s2.2[nds.length]?=some (⟨Jc3 prs l,-1,-1,0,0⟩:ND):=by
   have g1:s1.2[nds.length]?=(nds++[(⟨Jc3 prs l,-1,-1,0,0⟩:ND)])[nds.length]?:=k1.pre nds.length (by show nds.length<(nds++[(⟨Jc3 prs l,-1,-1,0,0⟩:ND)]).length;omega)
   rw [k2.pre nds.length (by omega),g1,List.getElem?_append_right (Nat.le_refl _),Nat.sub_self];rfl
 have hfin:Js2 prs mid (f+1) a b (o,nds)=(s2.1,s2.2.set nds.length (⟨Jc3 prs l,((nds.length+1:Nat):Int),((s1.2.length:Nat):Int),0,0⟩:ND)):=by
   rw [Js2]
   rw [if_neg h4]
   dsimp only
   rw [<-hl,<-hsp,<-hmm,<-hs1e,<-hs2e]
 rw [hfin] at hQ
 have U1:=ca4 hw (Ja8 hw) hn (ca4 (Ja8 hn) hr (Ja8 hr) (ca4 ol nl n1 (ca4 n2 n3 q1 (ca4 q2 hs1 hs2 (ca4 hkw hs3 d1 (ca4 d2 d3 d1s (ca4 d2s d3s hll (ca4 @Kf9 @Je7 @Ja4 (ca2 h4i hw7)))))))))
 refine AW.c 3 U1 Z0 ?_
 refine AW.d [.val,.val,.val,.val,.val,.rd 0,.val,.val,.ext,.val,.ext,.wr,.val,.val,.val,.wr] fol U1 (Kh9 T.w (.sl T.nb nds.length 0 nds.length) (.sl T.r T.v 0 o.length) T.pb T.pv T.N T.mb T.mv prs mid T.r T.v a l _ hMk hI h0) ?_
 refine AW.q fun K hK=>?_
 refine AW.anyMemG (fun M=>TmP T prs mid m M (o,(nds++[(⟨Jc3 prs l,-1,-1,0,0⟩:ND)]))) (hP.snoc hT (⟨Jc3 prs l,-1,-1,0,0⟩:ND) _) fun M hM=>?_
 have hMk1:=hM.mk' hT
 have hrM:M[T.r]?=some ⟨.grow,3,T.v,T.ez,iC o⟩:=hM.hr
 refine AW.c 1 U1 Z0 ?_
 apply AW.x rfl
 apply AW.z
 apply hK;clear hK
 have q_1:=Vu7 T.w _ _ T.pb T.pv T.N T.mb T.mv prs mid T.r T.v a b T.ez o l M hMk1 hrM hab hbo ho hol hl.symm
 rw [<-hsp] at q_1
 refine AW.c 1 U1 q_1 ?_
 refine AW.anyMemG (fun M1=>TmP T prs mid m M1 (Jv5 o a b sp.1,(nds++[(⟨Jc3 prs l,-1,-1,0,0⟩:ND)]))) (hM.order hT ol1) fun M1 hM1=>?_
 refine AW.sr 1 fun K hK=>?_
 simp only [push_cast,simprocAttr,U1]
 refine CThen.by (ih a mm (Jv5 o a b sp.1,(nds++[(⟨Jc3 prs l,-1,-1,0,0⟩:ND)])) _ (by omega) (by omega) (by show _<=(Jv5 o a b sp.1).length;omega) ho1 (by show (Jv5 o a b sp.1).length<=_;omega) (by show (nds++[(⟨Jc3 prs l,-1,-1,0,0⟩:ND)]).length+_<=_;omega) (hM1.ok hT) hM1.self) ?_
 simp only [push_cast,simprocAttr,U1]
 apply hK;clear hK
 refine AW.anyMemG (fun M2=>TmP T prs mid m M2 s1) (hs1e ▸ hM1.put hT _) fun M2 hM2=>?_
 refine AW.c 1 U1 (ih mm b s1 _ (by omega) (by omega) (by omega) ho2 (by omega) (by omega) (hM2.ok hT) hM2.self) ?_
 refine AW.anyMemG (fun M3=>TmP T prs mid m M3 (s2.1,s2.2)) (hs2e ▸ hM2.put hT _) fun M3 hM3=>?_
 have hwM:M3[T.w]?=some ⟨.fix,314,0,0,[.sl T.nb s2.2.length 0 s2.2.length,.sl T.r T.v 0 s2.1.length,.sl T.pb T.pv 0 T.N,.sl T.mb T.mv 0 T.N]⟩:=hM3.hw
 have hnM:M3[T.nb]?=some ⟨.grow,255,s2.2.length,16,ndL s2.2⟩:=hM3.hn
 have hMl:=hM3.len
 have hML:(ndL s2.2).length=s2.2.length*16:=Kk0 _
 have hkn:∀ B,(M3.set T.nb B)[T.nb]?=some B:=fun B=>List.getElem?_set_self (by omega)
 have hkW:∀ B,(M3.set T.nb B)[T.w]?=M3[T.w]?:=fun B=>List.getElem?_set_ne d1s
 have u1:(0:Int)<=(nds.length:Int):=by omega
 have u2:(nds.length:Int)<(s2.2.length:Int):=by omega
 have u3:nds.length*16+16<=s2.2.length*16:=by omega
 have u4:nds.length<s2.2.length:=by omega
 have u5:nds.length*16+15<=s2.2.length*16:=by omega
 have u6:nds.length*16+14<=s2.2.length*16:=by omega
 have u7:nds.length*16+13<=s2.2.length*16:=by omega
 have U2:=ca4 U1 hwM hnM (ca4 hML hkn hkW (ca4 u1 u2 u3 (ca4 u4 u5 u6 u7)))
 refine AW.d [.val,.val,.val,.val,.rd 0,.val,.val,.val,.val,.val,.rd 0,.val,.val,.val,.val,.val,.wr,.val,.val,.wr] fol U2 Z0 ?_
 refine AW.anyMemG (fun M=>∃ L,M=tM m T (s2.1,s2.2.set nds.length (⟨Jc3 prs l,((nds.length+1:Nat):Int),((s1.2.length:Nat):Int),0,0⟩:ND))++L) ?_ fun M hM=>?_
 · exact (hM3.two hT (i:=nds.length) (k1:=12) (k2:=13) (x1:=.int .i64 ((nds.length+1:Nat):Int)) (x2:=.int .i64 ((s1.2.length:Nat):Int)) (d:=(⟨Jc3 prs l,-1,-1,0,0⟩:ND)) (d1:=(⟨Jc3 prs l,((nds.length+1:Nat):Int),-1,0,0⟩:ND)) (d2:=(⟨Jc3 prs l,((nds.length+1:Nat):Int),((s1.2.length:Nat):Int),0,0⟩:ND)) rfl hs2d (by decide) (by decide) rfl rfl).ext hT
 obtain ⟨L9,rfl⟩:=hM
 refine AW.c 1 U2 Z0 ?_
 refine AW.ret ?_
 refine hQ _ _ _ ?_
 refine RetP.dropM (Kp5 _ _ _) (by first|exact Or.inr rfl|exact Or.inl rfl) ?_ ?_ (Xi8 hT hwf _)
 · (simp only [Jd3,Ja7,Jb5,AV.tv,push_cast,simprocAttr])<;>rfl
 rfl
theorem Vr6 (T:TB)(prs:Nat->PR)(mid:Nat->V):∀ f,∀ (a b:Nat) (st:List Nat × List ND) (m:Ja1),b - a<=f->a<b->b<=st.1.length->(∀ x,x<st.1.length->st.1.getD x 0<T.N)->st.1.length<=128->st.2.length+2*(b - a)<=1000->TbOk T prs mid m->TmP T prs mid m m st->Ctr Tryz.prog 184 [.one (.ptr T.w 0 0),.one (.int .i64 ((a:Int))),.one (.int .i64 ((b:Int)))] m (.one (.int .i64 (st.2.length:Int))) (tM m T (Js2 prs mid f a b st))
 | 0,a,b,st,m,hf,hab,_,_,_,_,_,_=>by omega
 | f+1,a,b,(o,nds),m,hf,hab,hbo,ho,hol,hnd,hT,hP=>by
  have hnd':nds.length+2*(b - a)<=1000:=hnd
  by_cases h4:b - a<=4
  ·have e:Js2 prs mid (f+1) a b (o,nds)=(o,nds++[⟨Jc3 prs (Jk3 o a b),-1,-1,(a:Int),((b - a:Nat):Int)⟩]):=by rw [Js2];exact if_pos h4
   rw [e]
   exact Xb1 T prs mid a b o nds m hT hP hab hbo ho hol (by omega) h4
  exact Xb0 T prs mid a b o nds m hT hP hab hbo ho hol f hf hnd' h4 (Vr6 T prs mid f)
theorem Vi4 (prs:Nat->PR)(rb rv n:Nat)(m:Ja1)(hb:∃ k ez,m[rb]?=some ⟨k,234,rv,ez,Jb6 n (prF prs)⟩)(h0:0<n)(hn:n<=128):Ctr Tryz.prog 181 [.one (.sl rb rv 0 n)] m (.one (.sl m.length 0 0 n)) (m++[⟨.grow,234,0,12,Jb6 n (prF prs)⟩]):=by
 refine Ctr.en Tryz.func181 [.tmp 2] 8 fun hwf Q hQ=>?_
 obtain ⟨k0,e0,hb⟩:=hb
 have lb:=Jb4 hb
 have bl:(Jb6 n (prF prs)).length=n*12:=Ja9 (w:=12) (F:=prF prs) (fun _=>rfl) _
 have bv:(Jb6 n (prF prs)).all CV.isVal=true:=Jc2 _ (fun _=>rfl) _
 have bt:List.take (n*12) (Jb6 n (prF prs))=Jb6 n (prF prs):=List.take_of_length_le (by omega)
 have q1:n<=140737488355327:=by omega
 have q4:n<=140737488355328:=by omega
 have q2:n*96<=140737488355328:=by omega
 have q3:n*12<=140737488355328:=by omega
 have hlt0:∀ k,¬m.length+k<m.length:=fun k=>by omega
 have U1:=ca4 hb (Ja8 hb) bl (ca4 bv bt q1 (ca4 q2 q3 q4 h0))
 refine AW.c 1 U1 Z0 ?_
 refine AW.q fun K hK=>?_
 refine AW.c 1 U1 Z0 ?_
 apply AW.x rfl
 apply AW.z
 apply hK;clear hK
 refine AW.c 1 U1 Z0 ?_
 refine AW.ret ?_
 refine hQ _ _ _ ?_
 refine RetP.pick [(m.length,1)] (by first|exact Or.inr rfl|exact Or.inl rfl) ?_ ?_ ?_ hwf ?_
 · simp only [Jd3,Ja7,Jb5,AV.tv,push_cast,simprocAttr]
   simp [Ko8,Kt0,Ke0,Jv4,Ji2,hlt0]
 · (simp only [Jp3,push_cast,simprocAttr])<;>rfl
 · simp [Jd0]
 exact Ja0 (Jc2 _ (fun _=>rfl) _) Jb8
theorem Qo0 (m:Ja1):Ctr Tryz.prog 181 [.one .nils] m (.one .nils) m:=by
 refine Ctr.en Tryz.func181 [.tmp 2] 8 fun hwf Q hQ=>?_
 refine AW.c 1 Z0 Z0 ?_
 refine AW.q fun K hK=>?_
 refine AW.c 1 Z0 Z0 ?_
 apply AW.y rfl
 refine AW.c 1 Z0 Z0 ?_
 exact AW.ret (hQ _ _ _ (RetP.z hwf Z0))
theorem Qs7 (m:Ja1):Ctr Tryz.prog 102 [.one .nils] m (.agg [.nils,.nils]) m:=by
 refine Ctr.en Tryz.func102 [.cell 2 125] 59 fun hwf Q hQ=>?_
 refine AW.c 2 Z0 Qo0 ?_
 refine AW.q fun K hK=>?_
 refine AW.c 1 Z0 Z0 ?_
 apply AW.y rfl
 refine AW.c 1 Z0 Z0 ?_
 exact AW.ret (hQ _ _ _ (RetP.z hwf Z0))
def Qq9 (prs:Nat->PR)(i:Nat):V:=Xn7 (Jp7 (prs i))
def Ji5 (prs:Nat->PR)(n:Nat):List Nat × List ND:=Js2 prs (Qq9 prs) n 0 n (List.range n,[])
theorem Vu4 (prs:Nat->PR)(rb rv n:Nat)(m:Ja1)(hb:∃ k ez,m[rb]?=some ⟨k,234,rv,ez,Jb6 n (prF prs)⟩)(h0:0<n)(hn:n<=128):Ctr Tryz.prog 102 [.one (.sl rb rv 0 n)] m (.agg [.sl m.length 0 0 (Ji5 prs n).2.length,.sl (m.length+1) 0 0 n]) (m++[⟨.grow,255,0,16,ndL (Ji5 prs n).2⟩,⟨.grow,3,0,1,iC (Ji5 prs n).1⟩]):=by
 refine Ctr.en Tryz.func102 [.cell 2 125] 59 fun hwf Q hQ=>?_
 obtain ⟨k0,e0,hb⟩:=hb
 have lb:=Jb4 hb
 have bl:(Jb6 n (prF prs)).length=n*12:=Ja9 (w:=12) (F:=prF prs) (fun _=>rfl) _
 have bv:(Jb6 n (prF prs)).all CV.isVal=true:=Jc2 _ (fun _=>rfl) _
 have bt:List.take (n*12) (Jb6 n (prF prs))=Jb6 n (prF prs):=List.take_of_length_le (by omega)
 have q1:n<=140737488355327:=by omega
 have q4:n<=140737488355328:=by omega
 have q2:n*96<=140737488355328:=by omega
 have q3:n*12<=140737488355328:=by omega
 have hlt0:∀ k,¬m.length+k<m.length:=fun k=>by omega
 have e1:((n:Int) ==0)=false:=by simp;omega
 have e2:¬(128:Int)<(n:Int):=by omega
 have hst:(Ji5 prs n).1.length=n:=(Jz7 (prs:=prs) (mid:=Qq9 prs) n 0 n (List.range n,[]) (by omega) h0 (by simp)).len.trans List.length_range
 refine AW.sr 2 fun K hK=>?_
 have U2:=ca4 hb (Ja8 hb) h0 (ca2 e1 e2)
 simp only [push_cast,simprocAttr,bl,U2]
 refine CThen.by (Vi4 prs rb rv n _ ⟨k0,e0,Ja8 hb _⟩ h0 hn) ?_
 simp only [push_cast,simprocAttr,bl,U2]
 apply hK;clear hK
 refine AW.q fun K hK=>?_
 refine AW.sr 1 fun K hK=>?_
 simp only [push_cast,simprocAttr,bl,U2]
 apply hK;clear hK
 apply AW.x rfl
 apply AW.z
 apply hK;clear hK
 refine AW.q fun K hK=>?_
 refine AW.sr 1 fun K hK=>?_
 simp only [push_cast,simprocAttr,bl,U2]
 apply hK;clear hK
 apply AW.b
 refine AW.nilCell 255 16 (m.length+2) 0 (by simp only [push_cast,simprocAttr,bl,U2];first|done|rfl) (by intro e;cases e) rfl ?_
 try simp only [push_cast,simprocAttr,bl,U2]
 refine AW.nilCell 3 1 (m.length+2) 1 (by simp only [push_cast,simprocAttr,bl,U2];first|done|rfl) (by intro e;cases e) rfl ?_
 try simp only [push_cast,simprocAttr,bl,U2]
 refine AW.nilCell 59 3 (m.length+2) 3 (by simp only [push_cast,simprocAttr,bl,U2];first|done|rfl) (by intro e;cases e) rfl ?_
 try simp only [push_cast,simprocAttr,bl,U2]
 refine AW.loopK [0,2,3,19,20] (fun i=>i<=n) (fun i=>[(21,.one (.int .i64 (i:Int)))]) (fun i=>[(m.length+2,⟨.fix,314,0,0,[.sl (m.length+3) 0 0 0,.sl (m.length+4) i 0 i,.sl (m.length+1) 0 0 n,.sl (m.length+5) i 0 i]⟩),(m.length+4,⟨.grow,3,i,1,iC (List.range i)⟩),(m.length+5,⟨.grow,59,i,3,Jb6 i (vF (Qq9 prs))⟩)]) (fun i=>n - i) 0 (by omega) ?_ ?_ fun i hi3=>?_
 · first|rfl|(simp only [KS,simprocAttr,Jb6,Int.natCast_zero,List.range_zero,iC,List.map_nil]<;>repeat' (first|rfl|apply And.intro))
 · (simp only [Ja3,push_cast,simprocAttr,Jb6,List.range_zero,iC,List.map_nil])<;>rfl
 try simp only [Jb2,Ja3,push_cast,simprocAttr,bl,U2]
 refine AW.sr 1 fun K hK=>?_
 simp only [push_cast,simprocAttr,bl,U2]
 apply hK;clear hK
 refine AW.q fun K hK=>?_
 refine AW.cond rfl (fun h22=>?_) (fun h22=>?_)
 ·have hlt:i<n:=by have:=of_decide_eq_true h22;omega
  have c1:(0:Int)<=(i:Int):=by omega
  have c2:(i:Int)<(n:Int):=by omega
  have c1:(0:Int)<=(i:Int):=by omega
  have c2:(i:Int)<(n:Int):=by omega
  have c3:i*12+12<=n*12:=by omega
  have ga:=Jc0 (w:=12) (F:=prF prs) (fun _=>rfl) hlt
  have gx:prF prs i=[.int .i64 ((prs i).a.lo 0),.int .i64 ((prs i).a.lo 1),.int .i64 ((prs i).a.lo 2),.int .i64 ((prs i).a.hi 0),.int .i64 ((prs i).a.hi 1),.int .i64 ((prs i).a.hi 2),.int .i64 ((prs i).b.lo 0),.int .i64 ((prs i).b.lo 1),.int .i64 ((prs i).b.lo 2),.int .i64 ((prs i).b.hi 0),.int .i64 ((prs i).b.hi 1),.int .i64 ((prs i).b.hi 2)]:=rfl
  have p1:i<=140737488355327:=by omega
  have p2:(i+1)*24<=140737488355328:=by omega
  have p3:(i+1)*8<=140737488355328:=by omega
  have gl1:(iC (List.range i)).length=i:=by rw [Jg5,List.length_range]
  have gl2:(Jb6 i (vF (Qq9 prs))).length=i*3:=Ja9 (w:=3) (F:=vF (Qq9 prs)) (fun _=>rfl) _
  have hap1:iC (List.range i)++[.int .i64 (i:Int)]=iC (List.range (i+1)):=by rw [Jw8,List.range_succ]
  have hap2:Jb6 i (vF (Qq9 prs))++[.int .i64 (Xn7 (Jp7 (prs i)) 0),.int .i64 (Xn7 (Jp7 (prs i)) 1),.int .i64 (Xn7 (Jp7 (prs i)) 2)]=Jb6 (i+1) (vF (Qq9 prs)):=rfl
  apply AW.z
  apply hK;clear hK
  refine AW.q fun K hK=>?_
  apply AW.b
  refine AW.sr 2 fun K hK=>?_
  have U3:=ca4 U2 c1 c2 (ca4 c3 ga gx (ca4 p1 p2 p3 (ca3 gl1 gl2 hlt)))
  simp only [push_cast,simprocAttr,bl,prC,bxC,c3C,U3]
  apply hK;clear hK
  refine AW.draw [.val,.val,.val,.val,.rd 0,.rd 0,.ext,.ext,.ext,.wr,.val,.val,.wr] fol (by decide) (by kernel_rfl) ?_
  simp only [push_cast,simprocAttr,bl,prC,bxC,c3C,U3]
  refine DCall.z (Qg9 (prs i) _) ?_
  simp only [push_cast,simprocAttr,bl,prC,bxC,c3C,U3]
  refine DCall.z (Vj1 (Jp7 (prs i)) _) ?_
  simp only [push_cast,simprocAttr,bl,prC,bxC,c3C,U3]
  refine DExt.by (by first|rfl|exact (List.append_nil _).symm|(simp only [List.append_assoc,List.cons_append,List.nil_append];rfl)) ?_
  simp only [push_cast,simprocAttr,bl,prC,bxC,c3C,U3]
  apply Ja6
  apply hK;clear hK
  refine AW.rg ?_
  simp only [push_cast,simprocAttr,bl,prC,bxC,c3C,U3]
  apply Jc1
  have hwi:IntKind.i64.wrap ((i:Int)+1)=(i:Int)+1:=wi (by omega)
  refine ⟨i+1,by omega,by omega,?_⟩
  try simp only [Jb2,Ja3,push_cast,simprocAttr,bl,prC,bxC,c3C,U3,hwi,hap1,hap2]
  exact Weak.to (extra:=_) (by simp only [KS,simprocAttr,hwi,hap1,hap2]) (by first|rfl|(simp only [List.append_assoc,List.cons_append,List.nil_append];rfl)) (by first|rfl|(simp [AV.below,CV.below];done)|(simp [AV.below,CV.below];omega)) (by exact MWf.app (hwf.grow (by simp)) (Ja0 rfl (Ja0 (Jc2 _ (fun _=>rfl) _) (Ja0 (by simp [CV.below]) (Ja0 rfl (Ja0 (Jg6 _ _) (Ja0 (Jc2 _ (fun _=>rfl) _) Jb8)))))))
 have hin:i=n:=by have:=of_decide_eq_false h22;omega
 rw [hin]
 apply AW.v
 apply Jb0
 clear hK
 apply Jb0
 apply Ja5
 apply hK;clear hK
 refine AW.sr 1 fun K hK=>?_
 simp only [push_cast,simprocAttr,bl,U2]
 refine CThen.by ((by have h:=Vr6 ⟨m.length+2,m.length+3,m.length+4,m.length+1,0,n,m.length+5,n,n,1⟩ prs (Qq9 prs) n 0 n (List.range n,[]);rw [show Js2 prs (Qq9 prs) n 0 n (List.range n,[])=Ji5 prs n from rfl] at h;exact h _ (by omega) h0 (by simp) (fun x hx=>by simp at hx;simp [hx]) (by simpa using hn) (by simp;omega) ⟨by simp,by simp,by simp,by simp,by simp,by simp,by simp,by simp,⟨.grow,12,by rw [Jf8];rfl⟩,⟨.grow,3,by rw [Jf8];rfl⟩,hn⟩ ⟨Nat.le_refl _,fun _ _ _ _ _=>rfl,by rw [Jf8];simp [TB.wC],by rw [Jf8];rfl,by rw [Jf8];rfl⟩)) ?_
 simp only [push_cast,simprocAttr,bl,U2]
 apply hK;clear hK
 refine AW.sr 1 fun K hK=>?_
 simp only [push_cast,simprocAttr,bl,U2,tM,TB.wC,hst]
 apply hK;clear hK
 refine AW.ret ?_
 refine hQ _ _ _ ?_
 refine RetP.pick [(m.length+3,(Ji5 prs n).2.length),(m.length+4,n)] (by first|exact Or.inr rfl|exact Or.inl rfl) ?_ ?_ ?_ hwf ?_
 · simp only [Jd3,Ja7,Jb5,AV.tv,push_cast,simprocAttr]
   simp [Ko8,Kt0,Ke0,Jv4,Ji2,hlt0]
 · (simp only [Jp3,push_cast,simprocAttr])<;>rfl
 · simp [Jd0]
 exact Ja0 (Jc2 _ (fun _=>rfl) _) (Ja0 (Jg6 _ _) Jb8)
def mF (mv:Nat->MV)(i:Nat):List CV:=mvC (mv i)
noncomputable def prM (mv:Nat->MV)(i:Nat):PR:=Kd1 (mv i)
theorem Vt6 (mv:Nat->MV)(rb rv n:Nat)(m:Ja1)(hb:∃ k ez,m[rb]?=some ⟨k,204,rv,ez,Jb6 n (mF mv)⟩)(hn:n<=128)(h0:0<n):Ctr Tryz.prog 36 [.one (.sl rb rv 0 n)] m (.agg [.sl m.length 0 0 (Ji5 (prM mv) n).2.length,.sl (m.length+1) 0 0 n,.sl (m.length+2) 0 0 n]) (m++[⟨.grow,255,0,16,ndL (Ji5 (prM mv) n).2⟩,⟨.grow,3,0,1,iC (Ji5 (prM mv) n).1⟩,⟨.grow,204,0,24,Jb6 n (mF mv)⟩]):=by
 refine Ctr.en Tryz.func36 [.cell 2 128] 27 fun hwf Q hQ=>?_
 obtain ⟨k0,e0,hb⟩:=hb
 have lb:=Jb4 hb
 have bl:(Jb6 n (mF mv)).length=n*24:=Ja9 (w:=24) (F:=mF mv) (fun _=>rfl) _
 have bv:(Jb6 n (mF mv)).all CV.isVal=true:=Jc2 _ (fun _=>rfl) _
 have bt:List.take (n*24) (Jb6 n (mF mv))=Jb6 n (mF mv):=List.take_of_length_le (by omega)
 have q1:n<=140737488355327:=by omega
 have q2:n*192<=140737488355328:=by omega
 have q3:n*24<=140737488355328:=by omega
 have q4:n<=140737488355328:=by omega
 have hlt0:∀ k,¬m.length+k<m.length:=fun k=>by omega
 have U1:=ca4 hb (Ja8 hb) bl (ca4 bv bt q1 (ca4 q2 q3 q4 h0))
 refine AW.c 3 U1 Z0 ?_
 refine AW.q fun K hK=>?_
 refine AW.c 1 U1 Z0 ?_
 apply AW.b
 refine AW.nilTm 234 12 3 rfl ?_
 try simp only [push_cast,simprocAttr,U1]
 refine AW.loopK [2,4,11,12] (fun i=>i<=n) (fun i=>[(3,.one (.sl (m.length+3) i 0 i)),(13,.one (.int .i64 (i:Int)))]) (fun i=>[(m.length+3,⟨.grow,234,i,12,Jb6 i (prF (prM mv))⟩)]) (fun i=>n - i) 0 (by omega) ?_ ?_ fun i hi2=>?_
 · first|rfl|(simp only [KS,simprocAttr,Jb6,Int.natCast_zero]<;>repeat' (first|rfl|apply And.intro))
 · (simp only [Ja3,push_cast,simprocAttr,Jb6])<;>rfl
 try simp only [Jb2,Ja3,push_cast,simprocAttr,U1]
 refine AW.c 1 U1 Z0 ?_
 refine AW.q fun K hK=>?_
 refine AW.cond rfl (fun h14=>?_) (fun h14=>?_)
 ·have hlt:i<n:=by have:=of_decide_eq_true h14;omega
  have c1:(0:Int)<=(i:Int):=by omega
  have c2:(i:Int)<(n:Int):=by omega
  have c1:(0:Int)<=(i:Int):=by omega
  have c2:(i:Int)<(n:Int):=by omega
  have c3:i*24+24<=n*24:=by omega
  have ga:=Jc0 (w:=24) (F:=mF mv) (fun _=>rfl) hlt
  have gx:mF mv i=[.int .i64 (mv i).A.kind,.int .i64 (mv i).A.paint,.int .i64 ((mv i).A.P 0 0),.int .i64 ((mv i).A.P 0 1),.int .i64 ((mv i).A.P 0 2),.int .i64 ((mv i).A.P 1 0),.int .i64 ((mv i).A.P 1 1),.int .i64 ((mv i).A.P 1 2),.int .i64 ((mv i).A.P 2 0),.int .i64 ((mv i).A.P 2 1),.int .i64 ((mv i).A.P 2 2),.int .i64 (mv i).A.r,.int .i64 (mv i).B.kind,.int .i64 (mv i).B.paint,.int .i64 ((mv i).B.P 0 0),.int .i64 ((mv i).B.P 0 1),.int .i64 ((mv i).B.P 0 2),.int .i64 ((mv i).B.P 1 0),.int .i64 ((mv i).B.P 1 1),.int .i64 ((mv i).B.P 1 2),.int .i64 ((mv i).B.P 2 0),.int .i64 ((mv i).B.P 2 1),.int .i64 ((mv i).B.P 2 2),.int .i64 (mv i).B.r]:=rfl
  have p1:i<=140737488355327:=by omega
  have p2:(i+1)*96<=140737488355328:=by omega
  have gl2:(Jb6 i (prF (prM mv))).length=i*12:=Ja9 (w:=12) (F:=prF (prM mv)) (fun _=>rfl) _
  have hap:Jb6 i (prF (prM mv))++[.int .i64 ((Kd1 (mv i)).a.lo 0),.int .i64 ((Kd1 (mv i)).a.lo 1),.int .i64 ((Kd1 (mv i)).a.lo 2),.int .i64 ((Kd1 (mv i)).a.hi 0),.int .i64 ((Kd1 (mv i)).a.hi 1),.int .i64 ((Kd1 (mv i)).a.hi 2),.int .i64 ((Kd1 (mv i)).b.lo 0),.int .i64 ((Kd1 (mv i)).b.lo 1),.int .i64 ((Kd1 (mv i)).b.lo 2),.int .i64 ((Kd1 (mv i)).b.hi 0),.int .i64 ((Kd1 (mv i)).b.hi 1),.int .i64 ((Kd1 (mv i)).b.hi 2)]=Jb6 (i+1) (prF (prM mv)):=rfl
  apply AW.z
  apply hK;clear hK
  refine AW.q fun K hK=>?_
  apply AW.b
  have U2:=ca4 U1 c1 c2 (ca4 c3 ga gx (ca4 p1 p2 gl2 (ca4 hlt @Kf9 @Je7 @Ja4)))
  refine AW.c 1 U2 Z0 ?_
  refine AW.g U2 (Vi9 (mv i)) ?_
  apply Ja6
  apply hK;clear hK
  refine AW.g U2 Z0 ?_
  apply Jc1
  have hwi:IntKind.i64.wrap ((i:Int)+1)=(i:Int)+1:=wi (by omega)
  refine ⟨i+1,by omega,by omega,?_⟩
  try simp only [Jb2,Ja3,push_cast,simprocAttr,U2,hwi,hap]
  exact Weak.to (extra:=_) (by simp only [KS,simprocAttr,hwi,hap]) (by first|rfl|(simp only [List.append_assoc,List.cons_append,List.nil_append];rfl)) (by first|rfl|(simp [AV.below,CV.below];done)|(simp [AV.below,CV.below];omega)) (by exact MWf.app (hwf.grow (by simp)) (Ja0 rfl (Ja0 (Jc2 _ (fun _=>rfl) _) (Ja0 (by simp [CV.below]) (Ja0 (Jc2 _ (fun _=>rfl) _) Jb8)))))
 have hin:i=n:=by have:=of_decide_eq_false h14;omega
 rw [hin]
 apply AW.v
 apply Jb0
 clear hK
 apply Jb0
 apply Ja5
 apply hK;clear hK
 refine AW.sr 2 fun K hK=>?_
 simp only [push_cast,simprocAttr,U1]
 refine CThen.by (Vu4 (prM mv) (m.length+3) n n _ ⟨.grow,12,by rw [Jf8];rfl⟩ h0 hn) ?_
 simp only [push_cast,simprocAttr,U1]
 apply hK;clear hK
 refine AW.ret ?_
 refine hQ _ _ _ ?_
 refine RetP.pick [(m.length+4,0),(m.length+5,0),(m.length+1,1)] (by first|exact Or.inr rfl|exact Or.inl rfl) ?_ ?_ ?_ hwf ?_
 · simp only [Jd3,Ja7,Jb5,AV.tv,push_cast,simprocAttr]
   simp [Ko8,Kt0,Ke0,Jv4,Ji2,hlt0]
 · (simp only [Jp3,push_cast,simprocAttr])<;>rfl
 · simp [Jd0]
 exact Ja0 (Jc2 _ (fun _=>rfl) _) (Ja0 (Jg6 _ _) (Ja0 (Jc2 _ (fun _=>rfl) _) Jb8))
theorem Ve5 (mv:Nat->MV)(rb rv n:Nat)(m:Ja1)(hb:∃ k ez,m[rb]?=some ⟨k,204,rv,ez,Jb6 n (mF mv)⟩)(hn:n<=128)(h0:n=0):Ctr Tryz.prog 36 [.one (.sl rb rv 0 n)] m (.agg [.nils,.nils,.sl m.length 0 0 n]) (m++[⟨.grow,204,0,24,Jb6 n (mF mv)⟩]):=by
 refine Ctr.en Tryz.func36 [.cell 2 128] 27 fun hwf Q hQ=>?_
 obtain ⟨k0,e0,hb⟩:=hb
 have lb:=Jb4 hb
 have bl:(Jb6 n (mF mv)).length=n*24:=Ja9 (w:=24) (F:=mF mv) (fun _=>rfl) _
 have bv:(Jb6 n (mF mv)).all CV.isVal=true:=Jc2 _ (fun _=>rfl) _
 have bt:List.take (n*24) (Jb6 n (mF mv))=Jb6 n (mF mv):=List.take_of_length_le (by omega)
 have q1:n<=140737488355327:=by omega
 have q2:n*192<=140737488355328:=by omega
 have q3:n*24<=140737488355328:=by omega
 have q4:n<=140737488355328:=by omega
 have hlt0:∀ k,¬m.length+k<m.length:=fun k=>by omega
 subst h0
 have U3:=ca4 hb (Ja8 hb) bl (ca4 bv bt q1 (ca3 q2 q3 q4))
 refine AW.c 3 U3 Z0 ?_
 refine AW.q fun K hK=>?_
 refine AW.c 1 U3 Z0 ?_
 apply AW.b
 refine AW.r 1 ?_
 refine ARounds.s fun K hK=>?_
 refine AW.c 1 U3 Z0 ?_
 refine AW.q fun K hK=>?_
 apply AW.x rfl
 apply AW.v
 apply Jb0
 clear hK
 apply Jb0
 clear hK
 apply Ja5
 apply hK;clear hK
 refine AW.c 2 U3 Qs7 ?_
 refine AW.ret ?_
 refine hQ _ _ _ ?_
 refine RetP.pick [(m.length+1,1)] (by first|exact Or.inr rfl|exact Or.inl rfl) ?_ ?_ ?_ hwf ?_
 · simp only [Jd3,Ja7,Jb5,AV.tv,push_cast,simprocAttr]
   simp [Ko8,Kt0,Ke0,Jv4,Ji2,hlt0]
 · (simp only [Jp3,push_cast,simprocAttr])<;>rfl
 · simp [Jd0]
 exact Ja0 (Jc2 _ (fun _=>rfl) _) Jb8
def Kg7 (a b:V):V:=Jb3 a (Je1 b (Jd8 131072 (Je8 a b)))
def Km5 (d n:V):V:=if 0<Je8 n d then Ve7 n else n
structure HT where
 (t i:Int) (p n:V)
def htC (h:HT):List CV:=.int .i64 h.t::.int .i64 h.i::(c3C h.p++c3C h.n)
def ht0:HT:=⟨0,0,z0V,z0V⟩
def ryC (r:RY):List CV:=c3C r.o++(c3C r.d++[.int .i64 r.part])
theorem Jh2 (r:RY):ryC r=(c3C r.o++(c3C r.d++[.int .i64 r.part])):=rfl
theorem Kw4 (r:RY)(t:Int)(m:Ja1):Ctr Tryz.prog 194 [.agg (ryC r),.one (.int .i64 t)] m (.agg (c3C (Je4 r t))) m:=by
 refine Ctr.en Tryz.func194 [.cell 4 59] 12 fun hwf Q hQ=>?_
 have U1:=ca2 @Jh2 @Ja4
 refine AW.c 1 U1 Z0 ?_
 refine AW.d [.val,.rd 0,.val,.rd 0,.val,.ext,.ext,.wr] fol U1 (ca2 (Ju3 r.d t) (Qe4 r.o (Je1 r.d t))) ?_
 exact AW.ret (hQ _ _ _ (RetP.z hwf Z0))
theorem Ks6 (r:RY)(t:Int)(m:Ja1):Ctr Tryz.prog 241 [.agg (ryC r),.one (.int .i64 t)] m (.agg (c3C (Je4 r t))) m:=by
 refine Ctr.en Tryz.func241 [.cell 4 54] 12 fun hwf Q hQ=>?_
 have U2:=ca2 @Jh2 @Ja4
 refine AW.c 1 U2 Z0 ?_
 refine AW.d [.val,.rd 0,.val,.rd 0,.val,.ext,.ext,.wr] fol U2 (ca2 (Jp2 r.d t) (Jt3 r.o (Je1 r.d t))) ?_
 exact AW.ret (hQ _ _ _ (RetP.z hwf Z0))
theorem Kx5 (r:RY)(a b:Int)(m:Ja1):Ctr Tryz.prog 125 [.agg (ryC r),.one (.int .i64 a),.one (.int .i64 b)] m (.agg (bxC (Jz2 r a b))) m:=by
 refine Ctr.en Tryz.func125 [.cell 6 232] 15 fun hwf Q hQ=>?_
 have U3:=ca3 @Jh2 @Je7 @Ja4
 refine AW.c 1 U3 Z0 ?_
 refine AW.q fun K hK=>?_
 refine AW.draw [.rd 0,.val,.ext,.rd 0,.val,.ext,.ext,.ext,.wr] fol (by decide) (by kernel_rfl) ?_
 simp only [push_cast,simprocAttr,U3]
 refine DCall.z (Kw4 r a _) ?_
 simp only [push_cast,simprocAttr,U3]
 refine DCall.z (Kw4 r b _) ?_
 simp only [push_cast,simprocAttr,U3]
 refine DExt.by (by first|rfl|exact (List.append_nil _).symm|(simp only [List.append_assoc,List.cons_append,List.nil_append];rfl)) ?_
 simp only [push_cast,simprocAttr,U3]
 refine DCall.z ((by have h:=fun M r9 q=>Xf5 (Je4 r a) (fun _=>Je4 r b) r9 0 0 1 1 M q (by omega) (by omega);exact h _ _ ⟨.grow,3,by simp only [push_cast,simprocAttr];rfl⟩)) ?_
 simp only [push_cast,simprocAttr,U3]
 apply hK;clear hK
 exact AW.ret (hQ _ _ _ (RetP.z hwf Z0))
theorem Kg6 (a b:V)(m:Ja1):Ctr Tryz.prog 135 [.agg (c3C a),.agg (c3C b)] m (.agg (c3C (Kg7 a b))) m:=by
 refine Ctr.en Tryz.func135 [.cell 4 59] 13 fun hwf Q hQ=>?_
 refine AW.c 1 @Ja4 Z0 ?_
 refine AW.d [.rd 0,.rd 0,.rd 0,.rd 0,.ext,.ext,.ext,.ext,.wr] fol @Ja4 (ca4 (Jg4 a b) Jm2 (Ju3 b (Jd8 131072 (Je8 a b))) (Jk0 a (Je1 b (Jd8 131072 (Je8 a b))))) ?_
 exact AW.ret (hQ _ _ _ (RetP.z hwf Z0))
theorem Kb8 (a b:V)(m:Ja1):Ctr Tryz.prog 154 [.agg (c3C a),.agg (c3C b)] m (.agg (c3C (Kg7 a b))) m:=by
 refine Ctr.en Tryz.func154 [.cell 4 54] 13 fun hwf Q hQ=>?_
 refine AW.c 1 @Ja4 Z0 ?_
 refine AW.d [.rd 0,.rd 0,.rd 0,.rd 0,.ext,.ext,.ext,.ext,.wr] fol @Ja4 (ca4 (Je3 a b) Jg3 (Jp2 b (Jd8 131072 (Je8 a b))) (Jg1 a (Je1 b (Jd8 131072 (Je8 a b))))) ?_
 exact AW.ret (hQ _ _ _ (RetP.z hwf Z0))
theorem Vm9 (r:RY)(n:V)(m:Ja1)(g:0<Je8 n r.d):Ctr Tryz.prog 236 [.agg (ryC r),.agg (c3C n)] m (.agg (c3C (Km5 r.d n))) m:=by
 refine Ctr.en Tryz.func236 [.cell 4 59] 13 fun hwf Q hQ=>?_
 have hv:Km5 r.d n=Ve7 n:=if_pos g
 rw [hv] at hQ
 have U4:=ca3 @Jh2 @Ja4 g
 refine AW.c 1 U4 Z0 ?_
 refine AW.q fun K hK=>?_
 refine AW.c 1 U4 (Jg4 n r.d) ?_
 apply AW.y rfl
 refine AW.c 1 U4 (neg_v n) ?_
 exact AW.ret (hQ _ _ _ (RetP.z hwf Z0))
theorem Vn0 (r:RY)(n:V)(m:Ja1)(g:¬0<Je8 n r.d):Ctr Tryz.prog 236 [.agg (ryC r),.agg (c3C n)] m (.agg (c3C (Km5 r.d n))) m:=by
 refine Ctr.en Tryz.func236 [.cell 4 59] 13 fun hwf Q hQ=>?_
 have hv:Km5 r.d n=n:=if_neg g
 rw [hv] at hQ
 have U5:=ca3 @Jh2 @Ja4 g
 refine AW.c 1 U5 Z0 ?_
 refine AW.q fun K hK=>?_
 refine AW.c 1 U5 (Jg4 n r.d) ?_
 apply AW.x rfl
 apply AW.z
 apply hK;clear hK
 refine AW.c 1 U5 Z0 ?_
 exact AW.ret (hQ _ _ _ (RetP.z hwf Z0))
theorem Ku4 (r:RY)(n:V)(m:Ja1):Ctr Tryz.prog 236 [.agg (ryC r),.agg (c3C n)] m (.agg (c3C (Km5 r.d n))) m:=by
 by_cases g:0<Je8 n r.d
 ·exact Vm9 r n m g
 exact Vn0 r n m g
theorem Qv8 (r:RY)(n:V)(m:Ja1)(g:0<Je8 n r.d):Ctr Tryz.prog 242 [.agg (ryC r),.agg (c3C n)] m (.agg (c3C (Km5 r.d n))) m:=by
 refine Ctr.en Tryz.func242 [.cell 4 54] 14 fun hwf Q hQ=>?_
 have hv:Km5 r.d n=Ve7 n:=if_pos g
 rw [hv] at hQ
 have U6:=ca3 @Jh2 @Ja4 g
 refine AW.c 1 U6 Z0 ?_
 refine AW.q fun K hK=>?_
 refine AW.c 1 U6 (Je3 n r.d) ?_
 apply AW.y rfl
 refine AW.c 1 U6 (Jg1 z0V n) ?_
 exact AW.ret (hQ _ _ _ (RetP.z hwf Z0))
theorem Qv9 (r:RY)(n:V)(m:Ja1)(g:¬0<Je8 n r.d):Ctr Tryz.prog 242 [.agg (ryC r),.agg (c3C n)] m (.agg (c3C (Km5 r.d n))) m:=by
 refine Ctr.en Tryz.func242 [.cell 4 54] 14 fun hwf Q hQ=>?_
 have hv:Km5 r.d n=n:=if_neg g
 rw [hv] at hQ
 have U7:=ca3 @Jh2 @Ja4 g
 refine AW.c 1 U7 Z0 ?_
 refine AW.q fun K hK=>?_
 refine AW.c 1 U7 (Je3 n r.d) ?_
 apply AW.x rfl
 apply AW.z
 apply hK;clear hK
 refine AW.c 1 U7 Z0 ?_
 exact AW.ret (hQ _ _ _ (RetP.z hwf Z0))
theorem Kj6 (r:RY)(n:V)(m:Ja1):Ctr Tryz.prog 242 [.agg (ryC r),.agg (c3C n)] m (.agg (c3C (Km5 r.d n))) m:=by
 by_cases g:0<Je8 n r.d
 ·exact Qv8 r n m g
 exact Qv9 r n m g
theorem Xp1 (b:BX)(q:V)(m:Ja1)(g0:q 0<b.lo 0):Ctr Tryz.prog 260 [.agg (bxC b),.agg (c3C q)] m (.one (.bool false)) m:=by
 refine Ctr.en Tryz.func260 [.tmp 4] 28 fun hwf Q hQ=>?_
 have U8:=ca4 @Je7 @Ja4 @decide_true (ca2 @decide_false g0)
 refine AW.c 1 U8 Z0 ?_
 refine AW.q fun K hK=>?_
 refine AW.c 1 U8 Z0 ?_
 apply AW.b
 refine AW.r 4 ?_
 refine ARounds.s fun K hK=>?_
 refine AW.c 1 U8 Z0 ?_
 refine AW.ifT rfl ?_
 refine AW.q fun K hK=>?_
 apply AW.b
 refine AW.sr 3 fun K hK=>?_
 simp only [push_cast,simprocAttr,U8]
 refine CThen.by (Jc6 q _) ?_
 simp only [push_cast,simprocAttr,U8]
 refine CThen.by (Jc6 b.lo _) ?_
 simp only [push_cast,simprocAttr,U8]
 try (refine CThen.by (Jc6 b.hi _) ?_;simp only [push_cast,simprocAttr,U8])
 apply hK;clear hK
 apply AW.y rfl
 refine AW.c 1 U8 Z0 ?_
 exact AW.ret (hQ _ _ _ (RetP.z hwf U8))
theorem Xp0 (b:BX)(q:V)(m:Ja1)(g0:¬q 0<b.lo 0)(g1:b.hi 0<q 0):Ctr Tryz.prog 260 [.agg (bxC b),.agg (c3C q)] m (.one (.bool false)) m:=by
 refine Ctr.en Tryz.func260 [.tmp 4] 28 fun hwf Q hQ=>?_
 have U9:=ca4 @Je7 @Ja4 @decide_true (ca3 @decide_false g0 g1)
 refine AW.c 1 U9 Z0 ?_
 refine AW.q fun K hK=>?_
 refine AW.c 1 U9 Z0 ?_
 apply AW.b
 refine AW.r 4 ?_
 refine ARounds.s fun K hK=>?_
 refine AW.c 1 U9 Z0 ?_
 refine AW.ifT rfl ?_
 refine AW.q fun K hK=>?_
 apply AW.b
 refine AW.sr 3 fun K hK=>?_
 simp only [push_cast,simprocAttr,U9]
 refine CThen.by (Jc6 q _) ?_
 simp only [push_cast,simprocAttr,U9]
 refine CThen.by (Jc6 b.lo _) ?_
 simp only [push_cast,simprocAttr,U9]
 try (refine CThen.by (Jc6 b.hi _) ?_;simp only [push_cast,simprocAttr,U9])
 apply hK;clear hK
 apply AW.y rfl
 refine AW.c 1 U9 Z0 ?_
 exact AW.ret (hQ _ _ _ (RetP.z hwf U9))
theorem Xo9 (b:BX)(q:V)(m:Ja1)(g0:¬q 0<b.lo 0)(g1:¬b.hi 0<q 0)(g2:q 1<b.lo 1):Ctr Tryz.prog 260 [.agg (bxC b),.agg (c3C q)] m (.one (.bool false)) m:=by
 refine Ctr.en Tryz.func260 [.tmp 4] 28 fun hwf Q hQ=>?_
 have U10:=ca4 @Je7 @Ja4 @decide_true (ca4 @decide_false g0 g1 g2)
 refine AW.c 1 U10 Z0 ?_
 refine AW.q fun K hK=>?_
 refine AW.c 1 U10 Z0 ?_
 apply AW.b
 refine AW.r 4 ?_
 refine ARounds.s fun K hK=>?_
 refine AW.c 1 U10 Z0 ?_
 refine AW.ifT rfl ?_
 refine AW.q fun K hK=>?_
 apply AW.b
 refine AW.sr 3 fun K hK=>?_
 simp only [push_cast,simprocAttr,U10]
 refine CThen.by (Jc6 q _) ?_
 simp only [push_cast,simprocAttr,U10]
 refine CThen.by (Jc6 b.lo _) ?_
 simp only [push_cast,simprocAttr,U10]
 try (refine CThen.by (Jc6 b.hi _) ?_;simp only [push_cast,simprocAttr,U10])
 apply hK;clear hK
 apply AW.x rfl
 apply AW.z
 apply Ja6
 apply hK;clear hK
 refine AW.g U10 Z0 ?_
 apply hK;clear hK
 refine ARounds.s fun K hK=>?_
 refine AW.c 1 U10 Z0 ?_
 refine AW.ifT rfl ?_
 refine AW.q fun K hK=>?_
 apply AW.b
 refine AW.sr 3 fun K hK=>?_
 simp only [push_cast,simprocAttr,U10]
 refine CThen.by (Jd5 q _) ?_
 simp only [push_cast,simprocAttr,U10]
 refine CThen.by (Jd5 b.lo _) ?_
 simp only [push_cast,simprocAttr,U10]
 try (refine CThen.by (Jd5 b.hi _) ?_;simp only [push_cast,simprocAttr,U10])
 apply hK;clear hK
 apply AW.y rfl
 refine AW.c 1 U10 Z0 ?_
 exact AW.ret (hQ _ _ _ (RetP.z hwf U10))
theorem Xo8 (b:BX)(q:V)(m:Ja1)(g0:¬q 0<b.lo 0)(g1:¬b.hi 0<q 0)(g2:¬q 1<b.lo 1)(g3:b.hi 1<q 1):Ctr Tryz.prog 260 [.agg (bxC b),.agg (c3C q)] m (.one (.bool false)) m:=by
 refine Ctr.en Tryz.func260 [.tmp 4] 28 fun hwf Q hQ=>?_
 have U11:=ca4 @Je7 @Ja4 @decide_true (ca4 @decide_false g0 g1 (ca2 g2 g3))
 refine AW.c 1 U11 Z0 ?_
 refine AW.q fun K hK=>?_
 refine AW.c 1 U11 Z0 ?_
 apply AW.b
 refine AW.r 4 ?_
 refine ARounds.s fun K hK=>?_
 refine AW.c 1 U11 Z0 ?_
 refine AW.ifT rfl ?_
 refine AW.q fun K hK=>?_
 apply AW.b
 refine AW.sr 3 fun K hK=>?_
 simp only [push_cast,simprocAttr,U11]
 refine CThen.by (Jc6 q _) ?_
 simp only [push_cast,simprocAttr,U11]
 refine CThen.by (Jc6 b.lo _) ?_
 simp only [push_cast,simprocAttr,U11]
 try (refine CThen.by (Jc6 b.hi _) ?_;simp only [push_cast,simprocAttr,U11])
 apply hK;clear hK
 apply AW.x rfl
 apply AW.z
 apply Ja6
 apply hK;clear hK
 refine AW.g U11 Z0 ?_
 apply hK;clear hK
 refine ARounds.s fun K hK=>?_
 refine AW.c 1 U11 Z0 ?_
 refine AW.ifT rfl ?_
 refine AW.q fun K hK=>?_
 apply AW.b
 refine AW.sr 3 fun K hK=>?_
 simp only [push_cast,simprocAttr,U11]
 refine CThen.by (Jd5 q _) ?_
 simp only [push_cast,simprocAttr,U11]
 refine CThen.by (Jd5 b.lo _) ?_
 simp only [push_cast,simprocAttr,U11]
 try (refine CThen.by (Jd5 b.hi _) ?_;simp only [push_cast,simprocAttr,U11])
 apply hK;clear hK
 apply AW.y rfl
 refine AW.c 1 U11 Z0 ?_
 exact AW.ret (hQ _ _ _ (RetP.z hwf U11))
theorem Xo7 (b:BX)(q:V)(m:Ja1)(g0:¬q 0<b.lo 0)(g1:¬b.hi 0<q 0)(g2:¬q 1<b.lo 1)(g3:¬b.hi 1<q 1)(g4:q 2<b.lo 2):Ctr Tryz.prog 260 [.agg (bxC b),.agg (c3C q)] m (.one (.bool false)) m:=by
 refine Ctr.en Tryz.func260 [.tmp 4] 28 fun hwf Q hQ=>?_
 have U12:=ca4 @Je7 @Ja4 @decide_true (ca4 @decide_false g0 g1 (ca3 g2 g3 g4))
 refine AW.c 1 U12 Z0 ?_
 refine AW.q fun K hK=>?_
 refine AW.c 1 U12 Z0 ?_
 apply AW.b
 refine AW.r 4 ?_
 refine ARounds.s fun K hK=>?_
 refine AW.c 1 U12 Z0 ?_
 refine AW.ifT rfl ?_
 refine AW.q fun K hK=>?_
 apply AW.b
 refine AW.sr 3 fun K hK=>?_
 simp only [push_cast,simprocAttr,U12]
 refine CThen.by (Jc6 q _) ?_
 simp only [push_cast,simprocAttr,U12]
 refine CThen.by (Jc6 b.lo _) ?_
 simp only [push_cast,simprocAttr,U12]
 try (refine CThen.by (Jc6 b.hi _) ?_;simp only [push_cast,simprocAttr,U12])
 apply hK;clear hK
 apply AW.x rfl
 apply AW.z
 apply Ja6
 apply hK;clear hK
 refine AW.g U12 Z0 ?_
 apply hK;clear hK
 refine ARounds.s fun K hK=>?_
 refine AW.c 1 U12 Z0 ?_
 refine AW.ifT rfl ?_
 refine AW.q fun K hK=>?_
 apply AW.b
 refine AW.sr 3 fun K hK=>?_
 simp only [push_cast,simprocAttr,U12]
 refine CThen.by (Jd5 q _) ?_
 simp only [push_cast,simprocAttr,U12]
 refine CThen.by (Jd5 b.lo _) ?_
 simp only [push_cast,simprocAttr,U12]
 try (refine CThen.by (Jd5 b.hi _) ?_;simp only [push_cast,simprocAttr,U12])
 apply hK;clear hK
 apply AW.x rfl
 apply AW.z
 apply Ja6
 apply hK;clear hK
 refine AW.g U12 Z0 ?_
 apply hK;clear hK
 refine ARounds.s fun K hK=>?_
 refine AW.c 1 U12 Z0 ?_
 refine AW.ifT rfl ?_
 refine AW.q fun K hK=>?_
 apply AW.b
 refine AW.sr 3 fun K hK=>?_
 simp only [push_cast,simprocAttr,U12]
 refine CThen.by (Jf6 q _) ?_
 simp only [push_cast,simprocAttr,U12]
 refine CThen.by (Jf6 b.lo _) ?_
 simp only [push_cast,simprocAttr,U12]
 try (refine CThen.by (Jf6 b.hi _) ?_;simp only [push_cast,simprocAttr,U12])
 apply hK;clear hK
 apply AW.y rfl
 refine AW.c 1 U12 Z0 ?_
 exact AW.ret (hQ _ _ _ (RetP.z hwf U12))
theorem Xo6 (b:BX)(q:V)(m:Ja1)(g0:¬q 0<b.lo 0)(g1:¬b.hi 0<q 0)(g2:¬q 1<b.lo 1)(g3:¬b.hi 1<q 1)(g4:¬q 2<b.lo 2)(g5:b.hi 2<q 2):Ctr Tryz.prog 260 [.agg (bxC b),.agg (c3C q)] m (.one (.bool false)) m:=by
 refine Ctr.en Tryz.func260 [.tmp 4] 28 fun hwf Q hQ=>?_
 have U13:=ca4 @Je7 @Ja4 @decide_true (ca4 @decide_false g0 g1 (ca4 g2 g3 g4 g5))
 refine AW.c 1 U13 Z0 ?_
 refine AW.q fun K hK=>?_
 refine AW.c 1 U13 Z0 ?_
 apply AW.b
 refine AW.r 4 ?_
 refine ARounds.s fun K hK=>?_
 refine AW.c 1 U13 Z0 ?_
 refine AW.ifT rfl ?_
 refine AW.q fun K hK=>?_
 apply AW.b
 refine AW.sr 3 fun K hK=>?_
 simp only [push_cast,simprocAttr,U13]
 refine CThen.by (Jc6 q _) ?_
 simp only [push_cast,simprocAttr,U13]
 refine CThen.by (Jc6 b.lo _) ?_
 simp only [push_cast,simprocAttr,U13]
 try (refine CThen.by (Jc6 b.hi _) ?_;simp only [push_cast,simprocAttr,U13])
 apply hK;clear hK
 apply AW.x rfl
 apply AW.z
 apply Ja6
 apply hK;clear hK
 refine AW.g U13 Z0 ?_
 apply hK;clear hK
 refine ARounds.s fun K hK=>?_
 refine AW.c 1 U13 Z0 ?_
 refine AW.ifT rfl ?_
 refine AW.q fun K hK=>?_
 apply AW.b
 refine AW.sr 3 fun K hK=>?_
 simp only [push_cast,simprocAttr,U13]
 refine CThen.by (Jd5 q _) ?_
 simp only [push_cast,simprocAttr,U13]
 refine CThen.by (Jd5 b.lo _) ?_
 simp only [push_cast,simprocAttr,U13]
 try (refine CThen.by (Jd5 b.hi _) ?_;simp only [push_cast,simprocAttr,U13])
 apply hK;clear hK
 apply AW.x rfl
 apply AW.z
 apply Ja6
 apply hK;clear hK
 refine AW.g U13 Z0 ?_
 apply hK;clear hK
 refine ARounds.s fun K hK=>?_
 refine AW.c 1 U13 Z0 ?_
 refine AW.ifT rfl ?_
 refine AW.q fun K hK=>?_
 apply AW.b
 refine AW.sr 3 fun K hK=>?_
 simp only [push_cast,simprocAttr,U13]
 refine CThen.by (Jf6 q _) ?_
 simp only [push_cast,simprocAttr,U13]
 refine CThen.by (Jf6 b.lo _) ?_
 simp only [push_cast,simprocAttr,U13]
 try (refine CThen.by (Jf6 b.hi _) ?_;simp only [push_cast,simprocAttr,U13])
 apply hK;clear hK
 apply AW.y rfl
 refine AW.c 1 U13 Z0 ?_
 exact AW.ret (hQ _ _ _ (RetP.z hwf U13))
theorem Xo5 (b:BX)(q:V)(m:Ja1)(g0:¬q 0<b.lo 0)(g1:¬b.hi 0<q 0)(g2:¬q 1<b.lo 1)(g3:¬b.hi 1<q 1)(g4:¬q 2<b.lo 2)(g5:¬b.hi 2<q 2):Ctr Tryz.prog 260 [.agg (bxC b),.agg (c3C q)] m (.one (.bool true)) m:=by
 refine Ctr.en Tryz.func260 [.tmp 4] 28 fun hwf Q hQ=>?_
 have U14:=ca4 @Je7 @Ja4 @decide_true (ca4 @decide_false g0 g1 (ca4 g2 g3 g4 g5))
 refine AW.c 1 U14 Z0 ?_
 refine AW.q fun K hK=>?_
 refine AW.c 1 U14 Z0 ?_
 apply AW.b
 refine AW.r 4 ?_
 refine ARounds.s fun K hK=>?_
 refine AW.c 1 U14 Z0 ?_
 refine AW.ifT rfl ?_
 refine AW.q fun K hK=>?_
 apply AW.b
 refine AW.sr 3 fun K hK=>?_
 simp only [push_cast,simprocAttr,U14]
 refine CThen.by (Jc6 q _) ?_
 simp only [push_cast,simprocAttr,U14]
 refine CThen.by (Jc6 b.lo _) ?_
 simp only [push_cast,simprocAttr,U14]
 try (refine CThen.by (Jc6 b.hi _) ?_;simp only [push_cast,simprocAttr,U14])
 apply hK;clear hK
 apply AW.x rfl
 apply AW.z
 apply Ja6
 apply hK;clear hK
 refine AW.g U14 Z0 ?_
 apply hK;clear hK
 refine ARounds.s fun K hK=>?_
 refine AW.c 1 U14 Z0 ?_
 refine AW.ifT rfl ?_
 refine AW.q fun K hK=>?_
 apply AW.b
 refine AW.sr 3 fun K hK=>?_
 simp only [push_cast,simprocAttr,U14]
 refine CThen.by (Jd5 q _) ?_
 simp only [push_cast,simprocAttr,U14]
 refine CThen.by (Jd5 b.lo _) ?_
 simp only [push_cast,simprocAttr,U14]
 try (refine CThen.by (Jd5 b.hi _) ?_;simp only [push_cast,simprocAttr,U14])
 apply hK;clear hK
 apply AW.x rfl
 apply AW.z
 apply Ja6
 apply hK;clear hK
 refine AW.g U14 Z0 ?_
 apply hK;clear hK
 refine ARounds.s fun K hK=>?_
 refine AW.c 1 U14 Z0 ?_
 refine AW.ifT rfl ?_
 refine AW.q fun K hK=>?_
 apply AW.b
 refine AW.sr 3 fun K hK=>?_
 simp only [push_cast,simprocAttr,U14]
 refine CThen.by (Jf6 q _) ?_
 simp only [push_cast,simprocAttr,U14]
 refine CThen.by (Jf6 b.lo _) ?_
 simp only [push_cast,simprocAttr,U14]
 try (refine CThen.by (Jf6 b.hi _) ?_;simp only [push_cast,simprocAttr,U14])
 apply hK;clear hK
 apply AW.x rfl
 apply AW.z
 apply Ja6
 apply hK;clear hK
 refine AW.g U14 Z0 ?_
 apply hK;clear hK
 refine ARounds.s fun K hK=>?_
 refine AW.c 1 U14 Z0 ?_
 refine AW.q fun K hK=>?_
 apply AW.x rfl
 apply AW.v
 apply Jb0
 clear hK
 apply Jb0
 clear hK
 apply Ja5
 apply hK;clear hK
 refine AW.c 1 U14 Z0 ?_
 exact AW.ret (hQ _ _ _ (RetP.z hwf U14))
theorem has_c (b:BX)(q:V)(m:Ja1)(z:Bool)(hz:z=true↔Ka0 b q):Ctr Tryz.prog 260 [.agg (bxC b),.agg (c3C q)] m (.one (.bool z)) m:=by
 by_cases g0:q 0<b.lo 0
 ·obtain rfl:z=false:=by
   cases z with
   | false=>rfl
   | true=>have:=(hz.1 rfl) 0 (by omega);omega
  exact Xp1 b q m g0
 by_cases g1:b.hi 0<q 0
 ·obtain rfl:z=false:=by
   cases z with
   | false=>rfl
   | true=>have:=(hz.1 rfl) 0 (by omega);omega
  exact Xp0 b q m g0 g1
 by_cases g2:q 1<b.lo 1
 ·obtain rfl:z=false:=by
   cases z with
   | false=>rfl
   | true=>have:=(hz.1 rfl) 1 (by omega);omega
  exact Xo9 b q m g0 g1 g2
 by_cases g3:b.hi 1<q 1
 ·obtain rfl:z=false:=by
   cases z with
   | false=>rfl
   | true=>have:=(hz.1 rfl) 1 (by omega);omega
  exact Xo8 b q m g0 g1 g2 g3
 by_cases g4:q 2<b.lo 2
 ·obtain rfl:z=false:=by
   cases z with
   | false=>rfl
   | true=>have:=(hz.1 rfl) 2 (by omega);omega
  exact Xo7 b q m g0 g1 g2 g3 g4
 by_cases g5:b.hi 2<q 2
 ·obtain rfl:z=false:=by
   cases z with
   | false=>rfl
   | true=>have:=(hz.1 rfl) 2 (by omega);omega
  exact Xo6 b q m g0 g1 g2 g3 g4 g5
 obtain rfl:z=true:=hz.2 fun k hk=>by
  match k,hk with
  | 0,_=>omega
  | 1,_=>omega
  | 2,_=>omega
 exact Xo5 b q m g0 g1 g2 g3 g4 g5
theorem Vy3 (b:BX)(q:V)(m:Ja1)(g0:q 0<b.lo 0):Ctr Tryz.prog 264 [.agg (bxC b),.agg (c3C q)] m (.one (.bool false)) m:=by
 refine Ctr.en Tryz.func264 [.tmp 4] 28 fun hwf Q hQ=>?_
 have U15:=ca4 @Je7 @Ja4 @decide_true (ca2 @decide_false g0)
 refine AW.c 1 U15 Z0 ?_
 refine AW.q fun K hK=>?_
 refine AW.c 1 U15 Z0 ?_
 apply AW.b
 refine AW.r 4 ?_
 refine ARounds.s fun K hK=>?_
 refine AW.q fun K hK=>?_
 refine AW.c 1 U15 Z0 ?_
 apply AW.y rfl
 apply AW.z
 apply hK;clear hK
 refine AW.q fun K hK=>?_
 apply AW.b
 refine AW.d [.val,.val,.rd 0,.val,.val,.val,.rd 0,.val,.val,.val,.val,.rd 0,.val,.val,.val,.rd 0,.val,.val] fol U15 Z0 ?_
 apply AW.y rfl
 refine AW.c 1 U15 Z0 ?_
 exact AW.ret (hQ _ _ _ (RetP.z hwf U15))
theorem Vy2 (b:BX)(q:V)(m:Ja1)(g0:¬q 0<b.lo 0)(g1:b.hi 0<q 0):Ctr Tryz.prog 264 [.agg (bxC b),.agg (c3C q)] m (.one (.bool false)) m:=by
 refine Ctr.en Tryz.func264 [.tmp 4] 28 fun hwf Q hQ=>?_
 have U16:=ca4 @Je7 @Ja4 @decide_true (ca3 @decide_false g0 g1)
 refine AW.c 1 U16 Z0 ?_
 refine AW.q fun K hK=>?_
 refine AW.c 1 U16 Z0 ?_
 apply AW.b
 refine AW.r 4 ?_
 refine ARounds.s fun K hK=>?_
 refine AW.q fun K hK=>?_
 refine AW.c 1 U16 Z0 ?_
 apply AW.y rfl
 apply AW.z
 apply hK;clear hK
 refine AW.q fun K hK=>?_
 apply AW.b
 refine AW.d [.val,.val,.rd 0,.val,.val,.val,.rd 0,.val,.val,.val,.val,.rd 0,.val,.val,.val,.rd 0,.val,.val] fol U16 Z0 ?_
 apply AW.y rfl
 refine AW.c 1 U16 Z0 ?_
 exact AW.ret (hQ _ _ _ (RetP.z hwf U16))
theorem Vy1 (b:BX)(q:V)(m:Ja1)(g0:¬q 0<b.lo 0)(g1:¬b.hi 0<q 0)(g2:q 1<b.lo 1):Ctr Tryz.prog 264 [.agg (bxC b),.agg (c3C q)] m (.one (.bool false)) m:=by
 refine Ctr.en Tryz.func264 [.tmp 4] 28 fun hwf Q hQ=>?_
 have U17:=ca4 @Je7 @Ja4 @decide_true (ca4 @decide_false g0 g1 g2)
 refine AW.c 1 U17 Z0 ?_
 refine AW.q fun K hK=>?_
 refine AW.c 1 U17 Z0 ?_
 apply AW.b
 refine AW.r 4 ?_
 refine ARounds.s fun K hK=>?_
 refine AW.q fun K hK=>?_
 refine AW.c 1 U17 Z0 ?_
 apply AW.y rfl
 apply AW.z
 apply hK;clear hK
 refine AW.q fun K hK=>?_
 apply AW.b
 refine AW.d [.val,.val,.rd 0,.val,.val,.val,.rd 0,.val,.val,.val,.val,.rd 0,.val,.val,.val,.rd 0,.val,.val] fol U17 Z0 ?_
 apply AW.x rfl
 apply AW.z
 apply Ja6
 apply hK;clear hK
 refine AW.g U17 Z0 ?_
 apply hK;clear hK
 refine ARounds.s fun K hK=>?_
 refine AW.q fun K hK=>?_
 refine AW.c 1 U17 Z0 ?_
 apply AW.y rfl
 apply AW.z
 apply hK;clear hK
 refine AW.q fun K hK=>?_
 apply AW.b
 refine AW.d [.val,.val,.rd 0,.val,.val,.val,.rd 0,.val,.val,.val,.val,.rd 0,.val,.val,.val,.rd 0,.val,.val] fol U17 Z0 ?_
 apply AW.y rfl
 refine AW.c 1 U17 Z0 ?_
 exact AW.ret (hQ _ _ _ (RetP.z hwf U17))
theorem Vy0 (b:BX)(q:V)(m:Ja1)(g0:¬q 0<b.lo 0)(g1:¬b.hi 0<q 0)(g2:¬q 1<b.lo 1)(g3:b.hi 1<q 1):Ctr Tryz.prog 264 [.agg (bxC b),.agg (c3C q)] m (.one (.bool false)) m:=by
 refine Ctr.en Tryz.func264 [.tmp 4] 28 fun hwf Q hQ=>?_
 have U18:=ca4 @Je7 @Ja4 @decide_true (ca4 @decide_false g0 g1 (ca2 g2 g3))
 refine AW.c 1 U18 Z0 ?_
 refine AW.q fun K hK=>?_
 refine AW.c 1 U18 Z0 ?_
 apply AW.b
 refine AW.r 4 ?_
 refine ARounds.s fun K hK=>?_
 refine AW.q fun K hK=>?_
 refine AW.c 1 U18 Z0 ?_
 apply AW.y rfl
 apply AW.z
 apply hK;clear hK
 refine AW.q fun K hK=>?_
 apply AW.b
 refine AW.d [.val,.val,.rd 0,.val,.val,.val,.rd 0,.val,.val,.val,.val,.rd 0,.val,.val,.val,.rd 0,.val,.val] fol U18 Z0 ?_
 apply AW.x rfl
 apply AW.z
 apply Ja6
 apply hK;clear hK
 refine AW.g U18 Z0 ?_
 apply hK;clear hK
 refine ARounds.s fun K hK=>?_
 refine AW.q fun K hK=>?_
 refine AW.c 1 U18 Z0 ?_
 apply AW.y rfl
 apply AW.z
 apply hK;clear hK
 refine AW.q fun K hK=>?_
 apply AW.b
 refine AW.d [.val,.val,.rd 0,.val,.val,.val,.rd 0,.val,.val,.val,.val,.rd 0,.val,.val,.val,.rd 0,.val,.val] fol U18 Z0 ?_
 apply AW.y rfl
 refine AW.c 1 U18 Z0 ?_
 exact AW.ret (hQ _ _ _ (RetP.z hwf U18))
theorem Vx9 (b:BX)(q:V)(m:Ja1)(g0:¬q 0<b.lo 0)(g1:¬b.hi 0<q 0)(g2:¬q 1<b.lo 1)(g3:¬b.hi 1<q 1)(g4:q 2<b.lo 2):Ctr Tryz.prog 264 [.agg (bxC b),.agg (c3C q)] m (.one (.bool false)) m:=by
 refine Ctr.en Tryz.func264 [.tmp 4] 28 fun hwf Q hQ=>?_
 have U19:=ca4 @Je7 @Ja4 @decide_true (ca4 @decide_false g0 g1 (ca3 g2 g3 g4))
 refine AW.c 1 U19 Z0 ?_
 refine AW.q fun K hK=>?_
 refine AW.c 1 U19 Z0 ?_
 apply AW.b
 refine AW.r 4 ?_
 refine ARounds.s fun K hK=>?_
 refine AW.q fun K hK=>?_
 refine AW.c 1 U19 Z0 ?_
 apply AW.y rfl
 apply AW.z
 apply hK;clear hK
 refine AW.q fun K hK=>?_
 apply AW.b
 refine AW.d [.val,.val,.rd 0,.val,.val,.val,.rd 0,.val,.val,.val,.val,.rd 0,.val,.val,.val,.rd 0,.val,.val] fol U19 Z0 ?_
 apply AW.x rfl
 apply AW.z
 apply Ja6
 apply hK;clear hK
 refine AW.g U19 Z0 ?_
 apply hK;clear hK
 refine ARounds.s fun K hK=>?_
 refine AW.q fun K hK=>?_
 refine AW.c 1 U19 Z0 ?_
 apply AW.y rfl
 apply AW.z
 apply hK;clear hK
 refine AW.q fun K hK=>?_
 apply AW.b
 refine AW.d [.val,.val,.rd 0,.val,.val,.val,.rd 0,.val,.val,.val,.val,.rd 0,.val,.val,.val,.rd 0,.val,.val] fol U19 Z0 ?_
 apply AW.x rfl
 apply AW.z
 apply Ja6
 apply hK;clear hK
 refine AW.g U19 Z0 ?_
 apply hK;clear hK
 refine ARounds.s fun K hK=>?_
 refine AW.q fun K hK=>?_
 refine AW.c 1 U19 Z0 ?_
 apply AW.y rfl
 apply AW.z
 apply hK;clear hK
 refine AW.q fun K hK=>?_
 apply AW.b
 refine AW.d [.val,.val,.rd 0,.val,.val,.val,.rd 0,.val,.val,.val,.val,.rd 0,.val,.val,.val,.rd 0,.val,.val] fol U19 Z0 ?_
 apply AW.y rfl
 refine AW.c 1 U19 Z0 ?_
 exact AW.ret (hQ _ _ _ (RetP.z hwf U19))
theorem Vx8 (b:BX)(q:V)(m:Ja1)(g0:¬q 0<b.lo 0)(g1:¬b.hi 0<q 0)(g2:¬q 1<b.lo 1)(g3:¬b.hi 1<q 1)(g4:¬q 2<b.lo 2)(g5:b.hi 2<q 2):Ctr Tryz.prog 264 [.agg (bxC b),.agg (c3C q)] m (.one (.bool false)) m:=by
 refine Ctr.en Tryz.func264 [.tmp 4] 28 fun hwf Q hQ=>?_
 have U20:=ca4 @Je7 @Ja4 @decide_true (ca4 @decide_false g0 g1 (ca4 g2 g3 g4 g5))
 refine AW.c 1 U20 Z0 ?_
 refine AW.q fun K hK=>?_
 refine AW.c 1 U20 Z0 ?_
 apply AW.b
 refine AW.r 4 ?_
 refine ARounds.s fun K hK=>?_
 refine AW.q fun K hK=>?_
 refine AW.c 1 U20 Z0 ?_
 apply AW.y rfl
 apply AW.z
 apply hK;clear hK
 refine AW.q fun K hK=>?_
 apply AW.b
 refine AW.d [.val,.val,.rd 0,.val,.val,.val,.rd 0,.val,.val,.val,.val,.rd 0,.val,.val,.val,.rd 0,.val,.val] fol U20 Z0 ?_
 apply AW.x rfl
 apply AW.z
 apply Ja6
 apply hK;clear hK
 refine AW.g U20 Z0 ?_
 apply hK;clear hK
 refine ARounds.s fun K hK=>?_
 refine AW.q fun K hK=>?_
 refine AW.c 1 U20 Z0 ?_
 apply AW.y rfl
 apply AW.z
 apply hK;clear hK
 refine AW.q fun K hK=>?_
 apply AW.b
 refine AW.d [.val,.val,.rd 0,.val,.val,.val,.rd 0,.val,.val,.val,.val,.rd 0,.val,.val,.val,.rd 0,.val,.val] fol U20 Z0 ?_
 apply AW.x rfl
 apply AW.z
 apply Ja6
 apply hK;clear hK
 refine AW.g U20 Z0 ?_
 apply hK;clear hK
 refine ARounds.s fun K hK=>?_
 refine AW.q fun K hK=>?_
 refine AW.c 1 U20 Z0 ?_
 apply AW.y rfl
 apply AW.z
 apply hK;clear hK
 refine AW.q fun K hK=>?_
 apply AW.b
 refine AW.d [.val,.val,.rd 0,.val,.val,.val,.rd 0,.val,.val,.val,.val,.rd 0,.val,.val,.val,.rd 0,.val,.val] fol U20 Z0 ?_
 apply AW.y rfl
 refine AW.c 1 U20 Z0 ?_
 exact AW.ret (hQ _ _ _ (RetP.z hwf U20))
theorem Vx7 (b:BX)(q:V)(m:Ja1)(g0:¬q 0<b.lo 0)(g1:¬b.hi 0<q 0)(g2:¬q 1<b.lo 1)(g3:¬b.hi 1<q 1)(g4:¬q 2<b.lo 2)(g5:¬b.hi 2<q 2):Ctr Tryz.prog 264 [.agg (bxC b),.agg (c3C q)] m (.one (.bool true)) m:=by
 refine Ctr.en Tryz.func264 [.tmp 4] 28 fun hwf Q hQ=>?_
 have U21:=ca4 @Je7 @Ja4 @decide_true (ca4 @decide_false g0 g1 (ca4 g2 g3 g4 g5))
 refine AW.c 1 U21 Z0 ?_
 refine AW.q fun K hK=>?_
 refine AW.c 1 U21 Z0 ?_
 apply AW.b
 refine AW.r 4 ?_
 refine ARounds.s fun K hK=>?_
 refine AW.q fun K hK=>?_
 refine AW.c 1 U21 Z0 ?_
 apply AW.y rfl
 apply AW.z
 apply hK;clear hK
 refine AW.q fun K hK=>?_
 apply AW.b
 refine AW.d [.val,.val,.rd 0,.val,.val,.val,.rd 0,.val,.val,.val,.val,.rd 0,.val,.val,.val,.rd 0,.val,.val] fol U21 Z0 ?_
 apply AW.x rfl
 apply AW.z
 apply Ja6
 apply hK;clear hK
 refine AW.g U21 Z0 ?_
 apply hK;clear hK
 refine ARounds.s fun K hK=>?_
 refine AW.q fun K hK=>?_
 refine AW.c 1 U21 Z0 ?_
 apply AW.y rfl
 apply AW.z
 apply hK;clear hK
 refine AW.q fun K hK=>?_
 apply AW.b
 refine AW.d [.val,.val,.rd 0,.val,.val,.val,.rd 0,.val,.val,.val,.val,.rd 0,.val,.val,.val,.rd 0,.val,.val] fol U21 Z0 ?_
 apply AW.x rfl
 apply AW.z
 apply Ja6
 apply hK;clear hK
 refine AW.g U21 Z0 ?_
 apply hK;clear hK
 refine ARounds.s fun K hK=>?_
 refine AW.q fun K hK=>?_
 refine AW.c 1 U21 Z0 ?_
 apply AW.y rfl
 apply AW.z
 apply hK;clear hK
 refine AW.q fun K hK=>?_
 apply AW.b
 refine AW.d [.val,.val,.rd 0,.val,.val,.val,.rd 0,.val,.val,.val,.val,.rd 0,.val,.val,.val,.rd 0,.val,.val] fol U21 Z0 ?_
 apply AW.x rfl
 apply AW.z
 apply Ja6
 apply hK;clear hK
 refine AW.g U21 Z0 ?_
 apply hK;clear hK
 refine ARounds.s fun K hK=>?_
 refine AW.q fun K hK=>?_
 refine AW.c 1 U21 Z0 ?_
 apply AW.x rfl
 apply AW.v
 apply Jb0
 clear hK
 apply Jb0
 clear hK
 apply Ja5
 apply hK;clear hK
 refine AW.c 1 U21 Z0 ?_
 exact AW.ret (hQ _ _ _ (RetP.z hwf U21))
theorem Xk7 (b:BX)(q:V)(m:Ja1)(z:Bool)(hz:z=true↔Ka0 b q):Ctr Tryz.prog 264 [.agg (bxC b),.agg (c3C q)] m (.one (.bool z)) m:=by
 by_cases g0:q 0<b.lo 0
 ·obtain rfl:z=false:=by
   cases z with
   | false=>rfl
   | true=>have:=(hz.1 rfl) 0 (by omega);omega
  exact Vy3 b q m g0
 by_cases g1:b.hi 0<q 0
 ·obtain rfl:z=false:=by
   cases z with
   | false=>rfl
   | true=>have:=(hz.1 rfl) 0 (by omega);omega
  exact Vy2 b q m g0 g1
 by_cases g2:q 1<b.lo 1
 ·obtain rfl:z=false:=by
   cases z with
   | false=>rfl
   | true=>have:=(hz.1 rfl) 1 (by omega);omega
  exact Vy1 b q m g0 g1 g2
 by_cases g3:b.hi 1<q 1
 ·obtain rfl:z=false:=by
   cases z with
   | false=>rfl
   | true=>have:=(hz.1 rfl) 1 (by omega);omega
  exact Vy0 b q m g0 g1 g2 g3
 by_cases g4:q 2<b.lo 2
 ·obtain rfl:z=false:=by
   cases z with
   | false=>rfl
   | true=>have:=(hz.1 rfl) 2 (by omega);omega
  exact Vx9 b q m g0 g1 g2 g3 g4
 by_cases g5:b.hi 2<q 2
 ·obtain rfl:z=false:=by
   cases z with
   | false=>rfl
   | true=>have:=(hz.1 rfl) 2 (by omega);omega
  exact Vx8 b q m g0 g1 g2 g3 g4 g5
 obtain rfl:z=true:=hz.2 fun k hk=>by
  match k,hk with
  | 0,_=>omega
  | 1,_=>omega
  | 2,_=>omega
 exact Vx7 b q m g0 g1 g2 g3 g4 g5
theorem Vo3 (a:V)(r v:Nat)(m:Ja1)(hb:∃ k ez,m[r]?=some ⟨k,54,v,ez,c3C a⟩):Ctr Tryz.prog 272 [.one (.sl r v 0 1)] m (.tup [(true,c3C a),(true,c3C a)]) m:=by
 refine Ctr.en Tryz.func272 [.cell 2 54,.cell 3 54] 62 fun hwf Q hQ=>?_
 obtain ⟨k0,ez,hb⟩:=hb
 have lb:=Jb4 hb
 have U1:=ca3 hb (Ja8 hb) @Ja4
 refine AW.c 1 U1 Z0 ?_
 refine AW.d [.val,.val,.rd 0,.val,.val,.rw 0,.ext,.fl,.wr,.wr] fol U1 Z0 ?_
 refine AW.q fun K hK=>?_
 refine AW.c 1 U1 Z0 ?_
 apply AW.b
 refine AW.r 1 ?_
 refine ARounds.s fun K hK=>?_
 refine AW.q fun K hK=>?_
 refine AW.c 1 U1 Z0 ?_
 apply AW.x rfl
 apply AW.v
 apply Jb0
 clear hK
 apply Jb0
 clear hK
 apply Ja5
 apply hK;clear hK
 refine AW.d [.rd 0,.rw 0,.wr,.wr] fol U1 Z0 ?_
 exact AW.ret (hQ _ _ _ (RetP.z hwf Z0))
theorem Vo2 (a b c:V)(r v:Nat)(m:Ja1)(hb:∃ k ez,m[r]?=some ⟨k,54,v,ez,c3C a++(c3C b++c3C c)⟩):Ctr Tryz.prog 272 [.one (.sl r v 0 3)] m (.tup [(true,c3C (fun k=>minI (minI (a k) (b k)) (c k))),(true,c3C (fun k=>maxI (maxI (a k) (b k)) (c k)))]) m:=by
 refine Ctr.en Tryz.func272 [.cell 2 54,.cell 3 54] 62 fun hwf Q hQ=>?_
 obtain ⟨k0,ez,hb⟩:=hb
 have lb:=Jb4 hb
 have U2:=ca3 hb (Ja8 hb) @Ja4
 refine AW.c 1 U2 Z0 ?_
 refine AW.d [.val,.val,.rd 0,.val,.val,.rw 0,.ext,.fl,.wr,.wr] fol U2 Z0 ?_
 refine AW.q fun K hK=>?_
 refine AW.c 1 U2 Z0 ?_
 apply AW.b
 refine AW.r 3 ?_
 refine ARounds.s fun K hK=>?_
 refine AW.q fun K hK=>?_
 refine AW.c 1 U2 Z0 ?_
 apply AW.y rfl
 apply AW.z
 apply hK;clear hK
 refine AW.q fun K hK=>?_
 apply AW.b
 refine AW.c 1 U2 Z0 ?_
 apply AW.b
 refine AW.r 4 ?_
 refine ARounds.s fun K hK=>?_
 refine AW.q fun K hK=>?_
 refine AW.c 1 U2 Z0 ?_
 apply AW.y rfl
 apply AW.z
 apply hK;clear hK
 refine AW.q fun K hK=>?_
 apply AW.b
 refine AW.q fun K hK=>?_
 refine AW.d [.val,.val,.val,.val,.val,.rd 0,.val,.val,.rd 0,.val] fol U2 Z0 ?_
 refine AW.condJ rfl [0,2,3,4,5,6,7] [] [(m.length+2,⟨.fix,54,0,0,[.int .i64 (minI (a 0) (b 0)),.int .i64 (a 1),.int .i64 (a 2)]⟩)] (fun h33=>?_) (fun h33=>?_) ?_
 ·have hmn:minI (a 0) (b 0)=(b 0):=if_pos (of_decide_eq_true h33)
  refine AW.g U2 Z0 ?_
  apply Jc1
  try simp only [Jb2,Ja3,push_cast,simprocAttr,U2,hmn]
  exact Weak.same (by simp only [KS,simprocAttr,hmn]) (by first|rfl|simp only [KS,simprocAttr,hmn])
 ·have hmn:minI (a 0) (b 0)=(a 0):=if_neg (of_decide_eq_false h33)
  apply AW.z
  apply Jc1
  try simp only [Jb2,Ja3,push_cast,simprocAttr,U2,hmn]
  exact Weak.same (by simp only [KS,simprocAttr,hmn]) (by first|rfl|simp only [KS,simprocAttr,hmn])
 try simp only [Jb2,Ja3,push_cast,simprocAttr,U2]
 apply hK;clear hK
 refine AW.d [.val,.val,.val,.val,.val,.rd 0,.val,.val,.rd 0,.val] fol U2 Z0 ?_
 refine AW.condJ rfl [0,2,3,4,5,6,7] [] [(m.length+3,⟨.fix,54,0,0,[.int .i64 (maxI (a 0) (b 0)),.int .i64 (a 1),.int .i64 (a 2)]⟩)] (fun h51=>?_) (fun h51=>?_) ?_
 ·have hmn:maxI (a 0) (b 0)=(b 0):=if_pos (of_decide_eq_true h51)
  refine AW.g U2 Z0 ?_
  apply Jc1
  try simp only [Jb2,Ja3,push_cast,simprocAttr,U2,hmn]
  exact Weak.same (by simp only [KS,simprocAttr,hmn]) (by first|rfl|simp only [KS,simprocAttr,hmn])
 ·have hmn:maxI (a 0) (b 0)=(a 0):=if_neg (of_decide_eq_false h51)
  apply AW.z
  apply Jc1
  try simp only [Jb2,Ja3,push_cast,simprocAttr,U2,hmn]
  exact Weak.same (by simp only [KS,simprocAttr,hmn]) (by first|rfl|simp only [KS,simprocAttr,hmn])
 try simp only [Jb2,Ja3,push_cast,simprocAttr,U2]
 apply Ja6
 apply hK;clear hK
 refine AW.g U2 Z0 ?_
 apply hK;clear hK
 refine ARounds.s fun K hK=>?_
 refine AW.q fun K hK=>?_
 refine AW.c 1 U2 Z0 ?_
 apply AW.y rfl
 apply AW.z
 apply hK;clear hK
 refine AW.q fun K hK=>?_
 apply AW.b
 refine AW.q fun K hK=>?_
 refine AW.d [.val,.val,.val,.val,.val,.rd 0,.val,.val,.rd 0,.val] fol U2 Z0 ?_
 refine AW.condJ rfl [0,2,3,4,5,6,7] [] [(m.length+2,⟨.fix,54,0,0,[.int .i64 (minI (a 0) (b 0)),.int .i64 (minI (a 1) (b 1)),.int .i64 (a 2)]⟩)] (fun h33=>?_) (fun h33=>?_) ?_
 ·have hmn:minI (a 1) (b 1)=(b 1):=if_pos (of_decide_eq_true h33)
  refine AW.g U2 Z0 ?_
  apply Jc1
  try simp only [Jb2,Ja3,push_cast,simprocAttr,U2,hmn]
  exact Weak.same (by simp only [KS,simprocAttr,hmn]) (by first|rfl|simp only [KS,simprocAttr,hmn])
 ·have hmn:minI (a 1) (b 1)=(a 1):=if_neg (of_decide_eq_false h33)
  apply AW.z
  apply Jc1
  try simp only [Jb2,Ja3,push_cast,simprocAttr,U2,hmn]
  exact Weak.same (by simp only [KS,simprocAttr,hmn]) (by first|rfl|simp only [KS,simprocAttr,hmn])
 try simp only [Jb2,Ja3,push_cast,simprocAttr,U2]
 apply hK;clear hK
 refine AW.d [.val,.val,.val,.val,.val,.rd 0,.val,.val,.rd 0,.val] fol U2 Z0 ?_
 refine AW.condJ rfl [0,2,3,4,5,6,7] [] [(m.length+3,⟨.fix,54,0,0,[.int .i64 (maxI (a 0) (b 0)),.int .i64 (maxI (a 1) (b 1)),.int .i64 (a 2)]⟩)] (fun h51=>?_) (fun h51=>?_) ?_
 ·have hmn:maxI (a 1) (b 1)=(b 1):=if_pos (of_decide_eq_true h51)
  refine AW.g U2 Z0 ?_
  apply Jc1
  try simp only [Jb2,Ja3,push_cast,simprocAttr,U2,hmn]
  exact Weak.same (by simp only [KS,simprocAttr,hmn]) (by first|rfl|simp only [KS,simprocAttr,hmn])
 ·have hmn:maxI (a 1) (b 1)=(a 1):=if_neg (of_decide_eq_false h51)
  apply AW.z
  apply Jc1
  try simp only [Jb2,Ja3,push_cast,simprocAttr,U2,hmn]
  exact Weak.same (by simp only [KS,simprocAttr,hmn]) (by first|rfl|simp only [KS,simprocAttr,hmn])
 try simp only [Jb2,Ja3,push_cast,simprocAttr,U2]
 apply Ja6
 apply hK;clear hK
 refine AW.g U2 Z0 ?_
 apply hK;clear hK
 refine ARounds.s fun K hK=>?_
 refine AW.q fun K hK=>?_
 refine AW.c 1 U2 Z0 ?_
 apply AW.y rfl
 apply AW.z
 apply hK;clear hK
 refine AW.q fun K hK=>?_
 apply AW.b
 refine AW.q fun K hK=>?_
 refine AW.d [.val,.val,.val,.val,.val,.rd 0,.val,.val,.rd 0,.val] fol U2 Z0 ?_
 refine AW.condJ rfl [0,2,3,4,5,6,7] [] [(m.length+2,⟨.fix,54,0,0,[.int .i64 (minI (a 0) (b 0)),.int .i64 (minI (a 1) (b 1)),.int .i64 (minI (a 2) (b 2))]⟩)] (fun h33=>?_) (fun h33=>?_) ?_
 ·have hmn:minI (a 2) (b 2)=(b 2):=if_pos (of_decide_eq_true h33)
  refine AW.g U2 Z0 ?_
  apply Jc1
  try simp only [Jb2,Ja3,push_cast,simprocAttr,U2,hmn]
  exact Weak.same (by simp only [KS,simprocAttr,hmn]) (by first|rfl|simp only [KS,simprocAttr,hmn])
 ·have hmn:minI (a 2) (b 2)=(a 2):=if_neg (of_decide_eq_false h33)
  apply AW.z
  apply Jc1
  try simp only [Jb2,Ja3,push_cast,simprocAttr,U2,hmn]
  exact Weak.same (by simp only [KS,simprocAttr,hmn]) (by first|rfl|simp only [KS,simprocAttr,hmn])
 try simp only [Jb2,Ja3,push_cast,simprocAttr,U2]
 apply hK;clear hK
 refine AW.d [.val,.val,.val,.val,.val,.rd 0,.val,.val,.rd 0,.val] fol U2 Z0 ?_
 refine AW.condJ rfl [0,2,3,4,5,6,7] [] [(m.length+3,⟨.fix,54,0,0,[.int .i64 (maxI (a 0) (b 0)),.int .i64 (maxI (a 1) (b 1)),.int .i64 (maxI (a 2) (b 2))]⟩)] (fun h51=>?_) (fun h51=>?_) ?_
 ·have hmn:maxI (a 2) (b 2)=(b 2):=if_pos (of_decide_eq_true h51)
  refine AW.g U2 Z0 ?_
  apply Jc1
  try simp only [Jb2,Ja3,push_cast,simprocAttr,U2,hmn]
  exact Weak.same (by simp only [KS,simprocAttr,hmn]) (by first|rfl|simp only [KS,simprocAttr,hmn])
 ·have hmn:maxI (a 2) (b 2)=(a 2):=if_neg (of_decide_eq_false h51)
  apply AW.z
  apply Jc1
  try simp only [Jb2,Ja3,push_cast,simprocAttr,U2,hmn]
  exact Weak.same (by simp only [KS,simprocAttr,hmn]) (by first|rfl|simp only [KS,simprocAttr,hmn])
 try simp only [Jb2,Ja3,push_cast,simprocAttr,U2]
 apply Ja6
 apply hK;clear hK
 refine AW.g U2 Z0 ?_
 apply hK;clear hK
 refine ARounds.s fun K hK=>?_
 refine AW.q fun K hK=>?_
 refine AW.c 1 U2 Z0 ?_
 apply AW.x rfl
 apply AW.v
 apply Jb0
 clear hK
 apply Jb0
 clear hK
 apply Ja5
 apply Ja6
 apply hK;clear hK
 refine AW.g U2 Z0 ?_
 apply hK;clear hK
 refine ARounds.s fun K hK=>?_
 refine AW.q fun K hK=>?_
 refine AW.c 1 U2 Z0 ?_
 apply AW.y rfl
 apply AW.z
 apply hK;clear hK
 refine AW.q fun K hK=>?_
 apply AW.b
 refine AW.c 1 U2 Z0 ?_
 apply AW.b
 refine AW.r 4 ?_
 refine ARounds.s fun K hK=>?_
 refine AW.q fun K hK=>?_
 refine AW.c 1 U2 Z0 ?_
 apply AW.y rfl
 apply AW.z
 apply hK;clear hK
 refine AW.q fun K hK=>?_
 apply AW.b
 refine AW.q fun K hK=>?_
 refine AW.d [.val,.val,.val,.val,.val,.rd 0,.val,.val,.rd 0,.val] fol U2 Z0 ?_
 refine AW.condJ rfl [0,2,3,4,5,6,7] [] [(m.length+2,⟨.fix,54,0,0,[.int .i64 (minI (minI (a 0) (b 0)) (c 0)),.int .i64 (minI (a 1) (b 1)),.int .i64 (minI (a 2) (b 2))]⟩)] (fun h33=>?_) (fun h33=>?_) ?_
 ·have hmn:minI (minI (a 0) (b 0)) (c 0)=(c 0):=if_pos (of_decide_eq_true h33)
  refine AW.g U2 Z0 ?_
  apply Jc1
  try simp only [Jb2,Ja3,push_cast,simprocAttr,U2,hmn]
  exact Weak.same (by simp only [KS,simprocAttr,hmn]) (by first|rfl|simp only [KS,simprocAttr,hmn])
 ·have hmn:minI (minI (a 0) (b 0)) (c 0)=(minI (a 0) (b 0)):=if_neg (of_decide_eq_false h33)
  apply AW.z
  apply Jc1
  try simp only [Jb2,Ja3,push_cast,simprocAttr,U2,hmn]
  exact Weak.same (by simp only [KS,simprocAttr,hmn]) (by first|rfl|simp only [KS,simprocAttr,hmn])
 try simp only [Jb2,Ja3,push_cast,simprocAttr,U2]
 apply hK;clear hK
 refine AW.d [.val,.val,.val,.val,.val,.rd 0,.val,.val,.rd 0,.val] fol U2 Z0 ?_
 refine AW.condJ rfl [0,2,3,4,5,6,7] [] [(m.length+3,⟨.fix,54,0,0,[.int .i64 (maxI (maxI (a 0) (b 0)) (c 0)),.int .i64 (maxI (a 1) (b 1)),.int .i64 (maxI (a 2) (b 2))]⟩)] (fun h51=>?_) (fun h51=>?_) ?_
 ·have hmn:maxI (maxI (a 0) (b 0)) (c 0)=(c 0):=if_pos (of_decide_eq_true h51)
  refine AW.g U2 Z0 ?_
  apply Jc1
  try simp only [Jb2,Ja3,push_cast,simprocAttr,U2,hmn]
  exact Weak.same (by simp only [KS,simprocAttr,hmn]) (by first|rfl|simp only [KS,simprocAttr,hmn])
 ·have hmn:maxI (maxI (a 0) (b 0)) (c 0)=(maxI (a 0) (b 0)):=if_neg (of_decide_eq_false h51)
  apply AW.z
  apply Jc1
  try simp only [Jb2,Ja3,push_cast,simprocAttr,U2,hmn]
  exact Weak.same (by simp only [KS,simprocAttr,hmn]) (by first|rfl|simp only [KS,simprocAttr,hmn])
 try simp only [Jb2,Ja3,push_cast,simprocAttr,U2]
 apply Ja6
 apply hK;clear hK
 refine AW.g U2 Z0 ?_
 apply hK;clear hK
 refine ARounds.s fun K hK=>?_
 refine AW.q fun K hK=>?_
 refine AW.c 1 U2 Z0 ?_
 apply AW.y rfl
 apply AW.z
 apply hK;clear hK
 refine AW.q fun K hK=>?_
 apply AW.b
 refine AW.q fun K hK=>?_
 refine AW.d [.val,.val,.val,.val,.val,.rd 0,.val,.val,.rd 0,.val] fol U2 Z0 ?_
 refine AW.condJ rfl [0,2,3,4,5,6,7] [] [(m.length+2,⟨.fix,54,0,0,[.int .i64 (minI (minI (a 0) (b 0)) (c 0)),.int .i64 (minI (minI (a 1) (b 1)) (c 1)),.int .i64 (minI (a 2) (b 2))]⟩)] (fun h33=>?_) (fun h33=>?_) ?_
 ·have hmn:minI (minI (a 1) (b 1)) (c 1)=(c 1):=if_pos (of_decide_eq_true h33)
  refine AW.g U2 Z0 ?_
  apply Jc1
  try simp only [Jb2,Ja3,push_cast,simprocAttr,U2,hmn]
  exact Weak.same (by simp only [KS,simprocAttr,hmn]) (by first|rfl|simp only [KS,simprocAttr,hmn])
 ·have hmn:minI (minI (a 1) (b 1)) (c 1)=(minI (a 1) (b 1)):=if_neg (of_decide_eq_false h33)
  apply AW.z
  apply Jc1
  try simp only [Jb2,Ja3,push_cast,simprocAttr,U2,hmn]
  exact Weak.same (by simp only [KS,simprocAttr,hmn]) (by first|rfl|simp only [KS,simprocAttr,hmn])
 try simp only [Jb2,Ja3,push_cast,simprocAttr,U2]
 apply hK;clear hK
 refine AW.d [.val,.val,.val,.val,.val,.rd 0,.val,.val,.rd 0,.val] fol U2 Z0 ?_
 refine AW.condJ rfl [0,2,3,4,5,6,7] [] [(m.length+3,⟨.fix,54,0,0,[.int .i64 (maxI (maxI (a 0) (b 0)) (c 0)),.int .i64 (maxI (maxI (a 1) (b 1)) (c 1)),.int .i64 (maxI (a 2) (b 2))]⟩)] (fun h51=>?_) (fun h51=>?_) ?_
 ·have hmn:maxI (maxI (a 1) (b 1)) (c 1)=(c 1):=if_pos (of_decide_eq_true h51)
  refine AW.g U2 Z0 ?_
  apply Jc1
  try simp only [Jb2,Ja3,push_cast,simprocAttr,U2,hmn]
  exact Weak.same (by simp only [KS,simprocAttr,hmn]) (by first|rfl|simp only [KS,simprocAttr,hmn])
 ·have hmn:maxI (maxI (a 1) (b 1)) (c 1)=(maxI (a 1) (b 1)):=if_neg (of_decide_eq_false h51)
  apply AW.z
  apply Jc1
  try simp only [Jb2,Ja3,push_cast,simprocAttr,U2,hmn]
  exact Weak.same (by simp only [KS,simprocAttr,hmn]) (by first|rfl|simp only [KS,simprocAttr,hmn])
 try simp only [Jb2,Ja3,push_cast,simprocAttr,U2]
 apply Ja6
 apply hK;clear hK
 refine AW.g U2 Z0 ?_
 apply hK;clear hK
 refine ARounds.s fun K hK=>?_
 refine AW.q fun K hK=>?_
 refine AW.c 1 U2 Z0 ?_
 apply AW.y rfl
 apply AW.z
 apply hK;clear hK
 refine AW.q fun K hK=>?_
 apply AW.b
 refine AW.q fun K hK=>?_
 refine AW.d [.val,.val,.val,.val,.val,.rd 0,.val,.val,.rd 0,.val] fol U2 Z0 ?_
 refine AW.condJ rfl [0,2,3,4,5,6,7] [] [(m.length+2,⟨.fix,54,0,0,[.int .i64 (minI (minI (a 0) (b 0)) (c 0)),.int .i64 (minI (minI (a 1) (b 1)) (c 1)),.int .i64 (minI (minI (a 2) (b 2)) (c 2))]⟩)] (fun h33=>?_) (fun h33=>?_) ?_
 ·have hmn:minI (minI (a 2) (b 2)) (c 2)=(c 2):=if_pos (of_decide_eq_true h33)
  refine AW.g U2 Z0 ?_
  apply Jc1
  try simp only [Jb2,Ja3,push_cast,simprocAttr,U2,hmn]
  exact Weak.same (by simp only [KS,simprocAttr,hmn]) (by first|rfl|simp only [KS,simprocAttr,hmn])
 ·have hmn:minI (minI (a 2) (b 2)) (c 2)=(minI (a 2) (b 2)):=if_neg (of_decide_eq_false h33)
  apply AW.z
  apply Jc1
  try simp only [Jb2,Ja3,push_cast,simprocAttr,U2,hmn]
  exact Weak.same (by simp only [KS,simprocAttr,hmn]) (by first|rfl|simp only [KS,simprocAttr,hmn])
 try simp only [Jb2,Ja3,push_cast,simprocAttr,U2]
 apply hK;clear hK
 refine AW.d [.val,.val,.val,.val,.val,.rd 0,.val,.val,.rd 0,.val] fol U2 Z0 ?_
 refine AW.condJ rfl [0,2,3,4,5,6,7] [] [(m.length+3,⟨.fix,54,0,0,[.int .i64 (maxI (maxI (a 0) (b 0)) (c 0)),.int .i64 (maxI (maxI (a 1) (b 1)) (c 1)),.int .i64 (maxI (maxI (a 2) (b 2)) (c 2))]⟩)] (fun h51=>?_) (fun h51=>?_) ?_
 ·have hmn:maxI (maxI (a 2) (b 2)) (c 2)=(c 2):=if_pos (of_decide_eq_true h51)
  refine AW.g U2 Z0 ?_
  apply Jc1
  try simp only [Jb2,Ja3,push_cast,simprocAttr,U2,hmn]
  exact Weak.same (by simp only [KS,simprocAttr,hmn]) (by first|rfl|simp only [KS,simprocAttr,hmn])
 ·have hmn:maxI (maxI (a 2) (b 2)) (c 2)=(maxI (a 2) (b 2)):=if_neg (of_decide_eq_false h51)
  apply AW.z
  apply Jc1
  try simp only [Jb2,Ja3,push_cast,simprocAttr,U2,hmn]
  exact Weak.same (by simp only [KS,simprocAttr,hmn]) (by first|rfl|simp only [KS,simprocAttr,hmn])
 try simp only [Jb2,Ja3,push_cast,simprocAttr,U2]
 apply Ja6
 apply hK;clear hK
 refine AW.g U2 Z0 ?_
 apply hK;clear hK
 refine ARounds.s fun K hK=>?_
 refine AW.q fun K hK=>?_
 refine AW.c 1 U2 Z0 ?_
 apply AW.x rfl
 apply AW.v
 apply Jb0
 clear hK
 apply Jb0
 clear hK
 apply Ja5
 apply Ja6
 apply hK;clear hK
 refine AW.g U2 Z0 ?_
 apply hK;clear hK
 refine ARounds.s fun K hK=>?_
 refine AW.q fun K hK=>?_
 refine AW.c 1 U2 Z0 ?_
 apply AW.x rfl
 apply AW.v
 apply Jb0
 clear hK
 apply Jb0
 clear hK
 apply Ja5
 apply hK;clear hK
 refine AW.d [.rd 0,.rw 0,.wr,.wr] fol U2 Z0 ?_
 exact AW.ret (hQ _ _ _ (RetP.z hwf Z0))
theorem Xk5 (a:V)(r v:Nat)(m:Ja1)(hb:∃ k ez,m[r]?=some ⟨k,54,v,ez,c3C a⟩):Ctr Tryz.prog 271 [.one (.sl r v 0 1)] m (.agg (bxC (⟨a,a⟩))) m:=by
 refine Ctr.en Tryz.func271 [.cell 2 376] 13 fun hwf Q hQ=>?_
 obtain ⟨k0,ez,hb⟩:=hb
 have lb:=Jb4 hb
 have U3:=ca2 @Je7 @Ja4
 refine AW.c 3 U3 (Vo3 a r v _ ⟨k0,ez,Ja8 hb _⟩) ?_
 exact AW.ret (hQ _ _ _ (RetP.z hwf Z0))
theorem Xk4 (a b c:V)(r v:Nat)(m:Ja1)(hb:∃ k ez,m[r]?=some ⟨k,54,v,ez,c3C a++(c3C b++c3C c)⟩):Ctr Tryz.prog 271 [.one (.sl r v 0 3)] m (.agg (bxC (⟨fun k=>minI (minI (a k) (b k)) (c k),fun k=>maxI (maxI (a k) (b k)) (c k)⟩))) m:=by
 refine Ctr.en Tryz.func271 [.cell 2 376] 13 fun hwf Q hQ=>?_
 obtain ⟨k0,ez,hb⟩:=hb
 have lb:=Jb4 hb
 have U4:=ca2 @Je7 @Ja4
 refine AW.c 3 U4 (Vo2 a b c r v _ ⟨k0,ez,Ja8 hb _⟩) ?_
 exact AW.ret (hQ _ _ _ (RetP.z hwf Z0))
theorem Qg1 (b:BX)(w:Int)(m:Ja1):Ctr Tryz.prog 270 [.agg (bxC b),.one (.int .i64 w)] m (.agg (bxC (⟨fun k=>Jf5 (b.lo k) w,fun k=>Jd6 (b.hi k) w⟩))) m:=by
 refine Ctr.en Tryz.func270 [.cell 4 376] 19 fun hwf Q hQ=>?_
 have U5:=ca4 @Je7 @Ja4 @Qr9 @Qs2
 refine AW.c 2 U5 Z0 ?_
 refine AW.d [.val,.rd 0,.rd 0,.ext,.val,.rd 0,.rd 0,.ext,.val,.wr] fol U5 (ca2 (Jg1 b.lo (fun _=>w)) (Jt3 b.hi (fun _=>w))) ?_
 exact AW.ret (hQ _ _ _ (RetP.z hwf Z0))
theorem Qn9 (p:PL)(m:Ja1)(hk:(p.kind ==0)=true):Ctr Tryz.prog 265 [.agg (plC p)] m (.agg (bxC (Jc7 p))) m:=by
 refine Ctr.en Tryz.func265 [.cell 2 376] 27 fun hwf Q hQ=>?_
 have hv:Jc7 p=⟨fun k=>Jf5 (p.P 0 k) (Jd6 p.r 8192),fun k=>Jd6 (p.P 0 k) (Jd6 p.r 8192)⟩:=by unfold Jc7;rw [if_pos (eq_of_beq hk)]
 rw [hv] at hQ
 have gx:plC p=[.int .i64 p.kind,.int .i64 p.paint,.int .i64 (p.P 0 0),.int .i64 (p.P 0 1),.int .i64 (p.P 0 2),.int .i64 (p.P 1 0),.int .i64 (p.P 1 1),.int .i64 (p.P 1 2),.int .i64 (p.P 2 0),.int .i64 (p.P 2 1),.int .i64 (p.P 2 2),.int .i64 p.r]:=rfl
 have U6:=ca4 gx hk @Je7 @Ja4
 refine AW.c 1 U6 Z0 ?_
 refine AW.q fun K hK=>?_
 refine AW.c 1 U6 Z0 ?_
 apply AW.y rfl
 refine AW.q fun K hK=>?_
 refine AW.draw [.val,.val,.rd 0,.ext,.ext,.val,.rd 0,.ext,.ext,.wr] fol (by decide) (by kernel_rfl) ?_
 simp only [push_cast,simprocAttr,U6]
 refine DExt.by (by first|rfl|exact (List.append_nil _).symm|(simp only [List.append_assoc,List.cons_append,List.nil_append];rfl)) ?_
 simp only [push_cast,simprocAttr,U6]
 refine DCall.z (Xk5 (p.P 0) _ 0 _ ⟨.grow,3,by simp only [push_cast,simprocAttr];rfl⟩) ?_
 simp only [push_cast,simprocAttr,U6]
 refine DCall.z (Jp0 _ _ _) ?_
 simp only [push_cast,simprocAttr,U6]
 refine DCall.z (Qg1 ⟨p.P 0,p.P 0⟩ (Jd6 p.r 8192) _) ?_
 simp only [push_cast,simprocAttr,U6]
 apply hK;clear hK
 exact AW.ret (hQ _ _ _ (RetP.z hwf Z0))
theorem Qn8 (p:PL)(m:Ja1)(hk:(p.kind ==0)=false):Ctr Tryz.prog 265 [.agg (plC p)] m (.agg (bxC (Jc7 p))) m:=by
 refine Ctr.en Tryz.func265 [.cell 2 376] 27 fun hwf Q hQ=>?_
 have hv:Jc7 p=⟨fun k=>Jf5 (lo3 p k) 8192,fun k=>Jd6 (hi3 p k) 8192⟩:=by unfold Jc7;rw [if_neg (by simpa using hk)]
 rw [hv] at hQ
 have gx:plC p=[.int .i64 p.kind,.int .i64 p.paint,.int .i64 (p.P 0 0),.int .i64 (p.P 0 1),.int .i64 (p.P 0 2),.int .i64 (p.P 1 0),.int .i64 (p.P 1 1),.int .i64 (p.P 1 2),.int .i64 (p.P 2 0),.int .i64 (p.P 2 1),.int .i64 (p.P 2 2),.int .i64 p.r]:=rfl
 have U7:=ca4 gx hk @Je7 @Ja4
 refine AW.c 1 U7 Z0 ?_
 refine AW.q fun K hK=>?_
 refine AW.c 1 U7 Z0 ?_
 apply AW.x rfl
 apply AW.z
 apply hK;clear hK
 refine AW.sr 1 fun K hK=>?_
 simp only [push_cast,simprocAttr,U7]
 refine CThen.by (Xk4 (p.P 0) (p.P 1) (p.P 2) _ 0 _ ⟨.grow,3,by rw [Jf8];rfl⟩) ?_
 simp only [push_cast,simprocAttr,U7]
 refine CThen.by (Qg1 ⟨lo3 p,hi3 p⟩ 8192 _) ?_
 simp only [push_cast,simprocAttr,U7]
 apply hK;clear hK
 exact AW.ret (hQ _ _ _ (RetP.z hwf Z0))
theorem Qx0 (p:PL)(m:Ja1):Ctr Tryz.prog 265 [.agg (plC p)] m (.agg (bxC (Jc7 p))) m:=by
 cases hk:(p.kind ==0)
 ·exact Qn8 p m hk
 exact Qn9 p m hk
theorem Ji8 (h:HT):htC h=(.int .i64 h.t::.int .i64 h.i::(c3C h.p++c3C h.n)):=rfl
theorem Jm4:z0V=(fun _=>0):=rfl
theorem Xb9 (P:PL)(r:RY)(t near far:Int)(m:Ja1)(g1:¬near<t):Ctr Tryz.prog 235 [.agg (ryC r),.agg (plC P),.one (.int .i64 t),.one (.int .i64 near),.one (.int .i64 far)] m (.tup [(true,htC (⟨t,0,Je4 r t,z0V⟩)),(false,[.bool false])]) m:=by
 refine Ctr.en Tryz.func235 [.cell 10 165,.tmp 11] 34 fun hwf Q hQ=>?_
 have U8:=ca4 @Jh2 @Jq5 @Je7 (ca4 @Ji8 @Ja4 @Jm4 (ca3 @decide_true @decide_false g1))
 refine AW.c 2 U8 (Kw4 r t) ?_
 refine AW.q fun K hK=>?_
 refine AW.draw [.rd 0,.val,.val,.val,.val,.val,.val,.val,.val,.val,.rd 0,.ext,.val,.rd 0,.ext,.val,.wr,.val] fol (by decide) (by kernel_rfl) ?_
 simp only [push_cast,simprocAttr,U8]
 apply hK;clear hK
 exact AW.ret (hQ _ _ _ (RetP.z hwf Z0))
theorem Vx4 (P:PL)(r:RY)(t near far:Int)(m:Ja1)(g1:¬near<t):Ctr Tryz.prog 240 [.agg (ryC r),.agg (plC P),.one (.int .i64 t),.one (.int .i64 near),.one (.int .i64 far)] m (.one (.bool false)) m:=by
 refine Ctr.en Tryz.func240 [.tmp 10] 27 fun hwf Q hQ=>?_
 have U9:=ca4 @Jh2 @Jq5 @Je7 (ca4 @Ja4 @decide_true @decide_false g1)
 refine AW.c 1 U9 Z0 ?_
 refine AW.q fun K hK=>?_
 refine AW.draw [.val,.val,.val,.val,.val,.val,.val,.val,.val,.rd 0,.ext,.rd 0,.val,.ext,.ext,.val,.val] fol (by decide) (by kernel_rfl) ?_
 simp only [push_cast,simprocAttr,U9]
 apply hK;clear hK
 exact AW.ret (hQ _ _ _ (RetP.z hwf U9))
theorem Xb8 (P:PL)(r:RY)(t near far:Int)(m:Ja1)(g1:near<t)(g2:¬t<=far):Ctr Tryz.prog 235 [.agg (ryC r),.agg (plC P),.one (.int .i64 t),.one (.int .i64 near),.one (.int .i64 far)] m (.tup [(true,htC (⟨t,0,Je4 r t,z0V⟩)),(false,[.bool false])]) m:=by
 refine Ctr.en Tryz.func235 [.cell 10 165,.tmp 11] 34 fun hwf Q hQ=>?_
 have U10:=ca4 @Jh2 @Jq5 @Je7 (ca4 @Ji8 @Ja4 @Jm4 (ca4 @decide_true @decide_false g1 g2))
 refine AW.c 2 U10 (Kw4 r t) ?_
 refine AW.q fun K hK=>?_
 refine AW.draw [.rd 0,.val,.val,.val,.val,.val,.val,.val,.val,.val,.rd 0,.ext,.val,.rd 0,.ext,.val,.wr,.val] fol (by decide) (by kernel_rfl) ?_
 simp only [push_cast,simprocAttr,U10]
 apply hK;clear hK
 exact AW.ret (hQ _ _ _ (RetP.z hwf Z0))
theorem Vx3 (P:PL)(r:RY)(t near far:Int)(m:Ja1)(g1:near<t)(g2:¬t<=far):Ctr Tryz.prog 240 [.agg (ryC r),.agg (plC P),.one (.int .i64 t),.one (.int .i64 near),.one (.int .i64 far)] m (.one (.bool false)) m:=by
 refine Ctr.en Tryz.func240 [.tmp 10] 27 fun hwf Q hQ=>?_
 have U11:=ca4 @Jh2 @Jq5 @Je7 (ca4 @Ja4 @decide_true @decide_false (ca2 g1 g2))
 refine AW.c 1 U11 Z0 ?_
 refine AW.q fun K hK=>?_
 refine AW.draw [.val,.val,.val,.val,.val,.val,.val,.val,.val,.rd 0,.ext,.rd 0,.val,.ext,.ext,.val,.val] fol (by decide) (by kernel_rfl) ?_
 simp only [push_cast,simprocAttr,U11]
 apply hK;clear hK
 exact AW.ret (hQ _ _ _ (RetP.z hwf U11))
theorem Xb7 (P:PL)(r:RY)(t near far:Int)(m:Ja1)(g1:near<t)(g2:t<=far)(z:Bool)(hz:z=true↔Ka0 (Jc7 P) (Je4 r t)):Ctr Tryz.prog 235 [.agg (ryC r),.agg (plC P),.one (.int .i64 t),.one (.int .i64 near),.one (.int .i64 far)] m (.tup [(true,htC (⟨t,0,Je4 r t,z0V⟩)),(false,[.bool z])]) m:=by
 refine Ctr.en Tryz.func235 [.cell 10 165,.tmp 11] 34 fun hwf Q hQ=>?_
 have U12:=ca4 @Jh2 @Jq5 @Je7 (ca4 @Ji8 @Ja4 @Jm4 (ca4 @decide_true @decide_false g1 g2))
 refine AW.c 2 U12 (Kw4 r t) ?_
 refine AW.d [.rd 0,.val,.val,.val,.val,.val,.val,.val,.val,.val,.rd 0,.ext,.val,.rd 0,.ext,.val,.wr,.val] fol U12 (ca2 (Jp5 P) (has_c (Jc7 P) (Je4 r t) _ z hz)) ?_
 exact AW.ret (hQ _ _ _ (RetP.z hwf Z0))
theorem Vx2 (P:PL)(r:RY)(t near far:Int)(m:Ja1)(g1:near<t)(g2:t<=far)(z:Bool)(hz:z=true↔Ka0 (Jc7 P) (Je4 r t)):Ctr Tryz.prog 240 [.agg (ryC r),.agg (plC P),.one (.int .i64 t),.one (.int .i64 near),.one (.int .i64 far)] m (.one (.bool z)) m:=by
 refine Ctr.en Tryz.func240 [.tmp 10] 27 fun hwf Q hQ=>?_
 have U13:=ca4 @Jh2 @Jq5 @Je7 (ca4 @Ja4 @decide_true @decide_false (ca2 g1 g2))
 refine AW.c 1 U13 Z0 ?_
 refine AW.d [.val,.val,.val,.val,.val,.val,.val,.val,.val,.rd 0,.ext,.rd 0,.val,.ext,.ext,.val,.val] fol U13 (ca3 (Qx0 P) (Ks6 r t) (Xk7 (Jc7 P) (Je4 r t) _ z hz)) ?_
 exact AW.ret (hQ _ _ _ (RetP.z hwf U13))
theorem Kk4 (P:PL)(r:RY)(t near far:Int)(m:Ja1)(z:Bool)(hz:z=true↔(near<t/\t<=far/\Ka0 (Jc7 P) (Je4 r t))):Ctr Tryz.prog 235 [.agg (ryC r),.agg (plC P),.one (.int .i64 t),.one (.int .i64 near),.one (.int .i64 far)] m (.tup [(true,htC (⟨t,0,Je4 r t,z0V⟩)),(false,[.bool z])]) m:=by
 by_cases g1:near<t
 ·by_cases g2:t<=far
  ·exact Xb7 P r t near far m g1 g2 z ⟨fun h=>(hz.1 h).2.2,fun h=>hz.2 ⟨g1,g2,h⟩⟩
  obtain rfl:z=false:=by
   cases z with
   | false=>rfl
   | true=>exact absurd (hz.1 rfl).2.1 g2
  exact Xb8 P r t near far m g1 g2
 obtain rfl:z=false:=by
  cases z with
  | false=>rfl
  | true=>exact absurd (hz.1 rfl).1 g1
 exact Xb9 P r t near far m g1
theorem Kj5 (P:PL)(r:RY)(t near far:Int)(m:Ja1)(z:Bool)(hz:z=true↔(near<t/\t<=far/\Ka0 (Jc7 P) (Je4 r t))):Ctr Tryz.prog 240 [.agg (ryC r),.agg (plC P),.one (.int .i64 t),.one (.int .i64 near),.one (.int .i64 far)] m (.one (.bool z)) m:=by
 by_cases g1:near<t
 ·by_cases g2:t<=far
  ·exact Vx2 P r t near far m g1 g2 z ⟨fun h=>(hz.1 h).2.2,fun h=>hz.2 ⟨g1,g2,h⟩⟩
  obtain rfl:z=false:=by
   cases z with
   | false=>rfl
   | true=>exact absurd (hz.1 rfl).2.1 g2
  exact Vx3 P r t near far m g1 g2
 obtain rfl:z=false:=by
  cases z with
  | false=>rfl
  | true=>exact absurd (hz.1 rfl).1 g1
 exact Vx4 P r t near far m g1
def Ka6 (P:PL)(r:RY)(near far t:Int):Prop:=near<t/\t<=far/\Ka0 (Jc7 P) (Je4 r t)
noncomputable def Jj2 (r:RY)(P:PL)(t:Int):V:=Km5 r.d (if P.kind=0 then Jb7 (Jb3 (Je4 r t) (P.P 0)) else Jb7 (Jd4 (Jb3 (P.P 1) (P.P 0)) (Jb3 (P.P 2) (P.P 0))))
noncomputable def htV (r:RY)(P:PL)(t:Int):HT:=⟨t,0,Je4 r t,Jj2 r P t⟩
theorem Js3 (b:Int):-Ja2 b=Jf5 0 b:=by
 unfold Jf5
 have h0:Ja2 0=0:=by decide
 have hb:=Jc8 b
 rw [h0,Int.zero_sub]
 exact (Jc4 (by omega)).symm
structure BalE (r:RY)(P:PL)(A B C D R t1 t2:Int):Prop where
 hA:Je8 r.d r.d=A
 hB:Je8 (Jb3 r.o (P.P 0)) r.d=B
 hC:Jf5 (Je8 (Jb3 r.o (P.P 0)) (Jb3 r.o (P.P 0))) (Jd8 P.r P.r)=C
 hD:Jf5 (Jd8 B B) (Jd8 A C)=D
 hR:Jn4 D=R
 h1:Jh1 (Jf5 (-Ja2 B) R) A=t1
 h2:Jh1 (Jf5 R B) A=t2
theorem Vp4 (r:RY)(P:PL)(near far A B C D R t1 t2:Int)(m:Ja1)(hE:BalE r P A B C D R t1 t2)(hk:P.kind=0)(g:D<0):Ctr Tryz.prog 195 [.agg (ryC r),.agg (plC P),.one (.int .i64 near),.one (.int .i64 far)] m (.tup [(true,htC ht0),(false,[.bool false])]) m:=by
 refine Ctr.en Tryz.func195 [.cell 8 165,.tmp 9] 96 fun hwf Q hQ=>?_
 obtain ⟨hA,hB,hC,hD,hR,h1,h2⟩:=hE
 have gx:plC P=[.int .i64 P.kind,.int .i64 P.paint,.int .i64 (P.P 0 0),.int .i64 (P.P 0 1),.int .i64 (P.P 0 2),.int .i64 (P.P 1 0),.int .i64 (P.P 1 1),.int .i64 (P.P 1 2),.int .i64 (P.P 2 0),.int .i64 (P.P 2 1),.int .i64 (P.P 2 2),.int .i64 P.r]:=rfl
 have ng:=Js3 B
 have hv:htC ht0=[.int .i64 0,.int .i64 0,.int .i64 0,.int .i64 0,.int .i64 0,.int .i64 0,.int .i64 0,.int .i64 0]:=rfl
 rw [hv] at hQ
 have U1:=ca4 gx @Jh2 @Ji8 (ca4 @Ja4 @Jm4 hA (ca4 hB hC hD (ca4 hR h1 h2 (ca3 g @decide_true @decide_false))))
 refine AW.c 2 U1 (Jk0 r.o (P.P 0)) ?_
 refine AW.d [.val,.rd 0,.val,.rd 0,.ext,.rd 0,.val,.rd 0,.ext,.val,.val] fol U1 (ca2 (Jg4 r.d r.d) (Jg4 (Jb3 r.o (P.P 0)) r.d)) ?_
 refine AW.d [.rd 0,.rd 0,.ext,.val,.rd 0,.val,.rd 0,.ext,.ext,.val] fol U1 (ca3 (Jg4 (Jb3 r.o (P.P 0)) (Jb3 r.o (P.P 0))) Jm2 Jr8) ?_
 refine AW.c 1 U1 (ca2 Jm2 Jr8) ?_
 refine AW.q fun K hK=>?_
 refine AW.c 1 U1 Z0 ?_
 apply AW.y rfl
 refine AW.c 1 U1 Z0 ?_
 exact AW.ret (hQ _ _ _ (RetP.z hwf Z0))
theorem Qw8 (r:RY)(P:PL)(near far A B C D R t1 t2:Int)(m:Ja1)(hE:BalE r P A B C D R t1 t2)(hk:P.kind=0)(g:D<0):Ctr Tryz.prog 200 [.agg (ryC r),.agg (plC P),.one (.int .i64 near),.one (.int .i64 far)] m (.tup [(true,htC ht0),(false,[.bool false])]) m:=by
 refine Ctr.en Tryz.func200 [.cell 8 183,.tmp 9] 98 fun hwf Q hQ=>?_
 obtain ⟨hA,hB,hC,hD,hR,h1,h2⟩:=hE
 have gx:plC P=[.int .i64 P.kind,.int .i64 P.paint,.int .i64 (P.P 0 0),.int .i64 (P.P 0 1),.int .i64 (P.P 0 2),.int .i64 (P.P 1 0),.int .i64 (P.P 1 1),.int .i64 (P.P 1 2),.int .i64 (P.P 2 0),.int .i64 (P.P 2 1),.int .i64 (P.P 2 2),.int .i64 P.r]:=rfl
 have ng:=Js3 B
 have hv:htC ht0=[.int .i64 0,.int .i64 0,.int .i64 0,.int .i64 0,.int .i64 0,.int .i64 0,.int .i64 0,.int .i64 0]:=rfl
 rw [hv] at hQ
 have U2:=ca4 gx @Jh2 @Ji8 (ca4 @Ja4 @Jm4 hA (ca4 hB hC hD (ca4 hR h1 h2 (ca4 g @decide_true @decide_false ng.symm))))
 refine AW.c 5 U2 (ca3 (Jg1 r.o (P.P 0)) (Je3 r.d r.d) (Je3 (Jb3 r.o (P.P 0)) r.d)) ?_
 refine AW.d [.rd 0,.rd 0,.ext,.val,.rd 0,.val,.rd 0,.ext,.ext,.val] fol U2 (ca3 (Je3 (Jb3 r.o (P.P 0)) (Jb3 r.o (P.P 0))) Jg3 Ji1) ?_
 refine AW.c 1 U2 (ca2 Jg3 Ji1) ?_
 refine AW.q fun K hK=>?_
 refine AW.c 1 U2 Z0 ?_
 apply AW.y rfl
 refine AW.c 1 U2 Z0 ?_
 exact AW.ret (hQ _ _ _ (RetP.z hwf Z0))
theorem Vp3 (r:RY)(P:PL)(near far A B C D R t1 t2:Int)(m:Ja1)(hE:BalE r P A B C D R t1 t2)(hk:P.kind=0)(g:¬D<0)(ga:(A ==0)=true):Ctr Tryz.prog 195 [.agg (ryC r),.agg (plC P),.one (.int .i64 near),.one (.int .i64 far)] m (.tup [(true,htC ht0),(false,[.bool false])]) m:=by
 refine Ctr.en Tryz.func195 [.cell 8 165,.tmp 9] 96 fun hwf Q hQ=>?_
 obtain ⟨hA,hB,hC,hD,hR,h1,h2⟩:=hE
 have gx:plC P=[.int .i64 P.kind,.int .i64 P.paint,.int .i64 (P.P 0 0),.int .i64 (P.P 0 1),.int .i64 (P.P 0 2),.int .i64 (P.P 1 0),.int .i64 (P.P 1 1),.int .i64 (P.P 1 2),.int .i64 (P.P 2 0),.int .i64 (P.P 2 1),.int .i64 (P.P 2 2),.int .i64 P.r]:=rfl
 have ng:=Js3 B
 have hv:htC ht0=[.int .i64 0,.int .i64 0,.int .i64 0,.int .i64 0,.int .i64 0,.int .i64 0,.int .i64 0,.int .i64 0]:=rfl
 rw [hv] at hQ
 have U3:=ca4 gx @Jh2 @Ji8 (ca4 @Ja4 @Jm4 hA (ca4 hB hC hD (ca4 hR h1 h2 (ca4 g @decide_true @decide_false ga))))
 refine AW.c 2 U3 (Jk0 r.o (P.P 0)) ?_
 refine AW.d [.val,.rd 0,.val,.rd 0,.ext,.rd 0,.val,.rd 0,.ext,.val,.val] fol U3 (ca2 (Jg4 r.d r.d) (Jg4 (Jb3 r.o (P.P 0)) r.d)) ?_
 refine AW.d [.rd 0,.rd 0,.ext,.val,.rd 0,.val,.rd 0,.ext,.ext,.val] fol U3 (ca3 (Jg4 (Jb3 r.o (P.P 0)) (Jb3 r.o (P.P 0))) Jm2 Jr8) ?_
 refine AW.c 1 U3 (ca2 Jm2 Jr8) ?_
 refine AW.q fun K hK=>?_
 refine AW.c 1 U3 Z0 ?_
 apply AW.y rfl
 refine AW.c 1 U3 Z0 ?_
 exact AW.ret (hQ _ _ _ (RetP.z hwf Z0))
theorem Qw7 (r:RY)(P:PL)(near far A B C D R t1 t2:Int)(m:Ja1)(hE:BalE r P A B C D R t1 t2)(hk:P.kind=0)(g:¬D<0)(ga:(A ==0)=true):Ctr Tryz.prog 200 [.agg (ryC r),.agg (plC P),.one (.int .i64 near),.one (.int .i64 far)] m (.tup [(true,htC ht0),(false,[.bool false])]) m:=by
 refine Ctr.en Tryz.func200 [.cell 8 183,.tmp 9] 98 fun hwf Q hQ=>?_
 obtain ⟨hA,hB,hC,hD,hR,h1,h2⟩:=hE
 have gx:plC P=[.int .i64 P.kind,.int .i64 P.paint,.int .i64 (P.P 0 0),.int .i64 (P.P 0 1),.int .i64 (P.P 0 2),.int .i64 (P.P 1 0),.int .i64 (P.P 1 1),.int .i64 (P.P 1 2),.int .i64 (P.P 2 0),.int .i64 (P.P 2 1),.int .i64 (P.P 2 2),.int .i64 P.r]:=rfl
 have ng:=Js3 B
 have hv:htC ht0=[.int .i64 0,.int .i64 0,.int .i64 0,.int .i64 0,.int .i64 0,.int .i64 0,.int .i64 0,.int .i64 0]:=rfl
 rw [hv] at hQ
 have U4:=ca4 gx @Jh2 @Ji8 (ca4 @Ja4 @Jm4 hA (ca4 hB hC hD (ca4 hR h1 h2 (ca4 g @decide_true @decide_false (ca2 ga ng.symm)))))
 refine AW.c 5 U4 (ca3 (Jg1 r.o (P.P 0)) (Je3 r.d r.d) (Je3 (Jb3 r.o (P.P 0)) r.d)) ?_
 refine AW.d [.rd 0,.rd 0,.ext,.val,.rd 0,.val,.rd 0,.ext,.ext,.val] fol U4 (ca3 (Je3 (Jb3 r.o (P.P 0)) (Jb3 r.o (P.P 0))) Jg3 Ji1) ?_
 refine AW.c 1 U4 (ca2 Jg3 Ji1) ?_
 refine AW.q fun K hK=>?_
 refine AW.c 1 U4 Z0 ?_
 apply AW.y rfl
 refine AW.c 1 U4 Z0 ?_
 exact AW.ret (hQ _ _ _ (RetP.z hwf Z0))
theorem Xg0 (r:RY)(P:PL)(near far A B C D R t1 t2:Int)(m:Ja1)(hE:BalE r P A B C D R t1 t2)(hk:P.kind=0)(g:¬D<0)(ga:(A ==0)=false)(g1:Ka6 P r near far t1):Ctr Tryz.prog 195 [.agg (ryC r),.agg (plC P),.one (.int .i64 near),.one (.int .i64 far)] m (.tup [(true,htC (htV r P t1)),(false,[.bool true])]) m:=by
 refine Ctr.en Tryz.func195 [.cell 8 165,.tmp 9] 96 fun hwf Q hQ=>?_
 obtain ⟨hA,hB,hC,hD,hR,h1,h2⟩:=hE
 have gx:plC P=[.int .i64 P.kind,.int .i64 P.paint,.int .i64 (P.P 0 0),.int .i64 (P.P 0 1),.int .i64 (P.P 0 2),.int .i64 (P.P 1 0),.int .i64 (P.P 1 1),.int .i64 (P.P 1 2),.int .i64 (P.P 2 0),.int .i64 (P.P 2 1),.int .i64 (P.P 2 2),.int .i64 P.r]:=rfl
 have ng:=Js3 B
 have hn:Jj2 r P t1=Km5 r.d (Jb7 (Jb3 (Je4 r t1) (P.P 0))):=by unfold Jj2;rw [if_pos hk]
 have hv:htC (htV r P t1)=.int .i64 t1::.int .i64 0::(c3C (Je4 r t1)++c3C (Km5 r.d (Jb7 (Jb3 (Je4 r t1) (P.P 0))))):=by unfold htV htC;rw [hn]
 rw [hv] at hQ
 have U5:=ca4 gx @Jh2 @Ji8 (ca4 @Ja4 @Jm4 hA (ca4 hB hC hD (ca4 hR h1 h2 (ca4 g @decide_true @decide_false ga))))
 refine AW.c 2 U5 (Jk0 r.o (P.P 0)) ?_
 refine AW.d [.val,.rd 0,.val,.rd 0,.ext,.rd 0,.val,.rd 0,.ext,.val,.val] fol U5 (ca2 (Jg4 r.d r.d) (Jg4 (Jb3 r.o (P.P 0)) r.d)) ?_
 refine AW.d [.rd 0,.rd 0,.ext,.val,.rd 0,.val,.rd 0,.ext,.ext,.val] fol U5 (ca3 (Jg4 (Jb3 r.o (P.P 0)) (Jb3 r.o (P.P 0))) Jm2 Jr8) ?_
 refine AW.c 1 U5 (ca2 Jm2 Jr8) ?_
 refine AW.q fun K hK=>?_
 refine AW.c 1 U5 Z0 ?_
 apply AW.x rfl
 apply AW.z
 apply hK;clear hK
 refine AW.c 1 U5 Kx0 ?_
 refine AW.q fun K hK=>?_
 refine AW.c 1 U5 (ca2 Xb2 Jr8) ?_
 apply AW.b
 refine AW.r 3 ?_
 refine ARounds.s fun K hK=>?_
 refine AW.c 1 U5 Z0 ?_
 refine AW.ifT rfl ?_
 refine AW.q fun K hK=>?_
 apply AW.b
 refine AW.c 1 U5 Z0 ?_
 refine AW.d [.rd 0,.rd 0,.val,.val,.ext,.val,.val,.ext,.val,.val,.val,.fl,.wr,.val] fol U5 (ca2 Jq8 (Kk4 P r t1 near far _ true ⟨fun _=>g1,fun _=>rfl⟩)) ?_
 refine AW.c 1 U5 Z0 ?_
 apply AW.y rfl
 refine AW.d [.rd 0,.val,.rd 0,.val,.val,.rd 0,.ext,.ext,.ext,.val,.wr] fol U5 (ca3 (Jk0 (Je4 r t1) (P.P 0)) (Jq9 (Jb3 (Je4 r t1) (P.P 0))) (Ku4 r (Jb7 (Jb3 (Je4 r t1) (P.P 0))))) ?_
 refine AW.c 1 U5 Z0 ?_
 exact AW.ret (hQ _ _ _ (RetP.z hwf Z0))
theorem Vi3 (r:RY)(P:PL)(near far A B C D R t1 t2:Int)(m:Ja1)(hE:BalE r P A B C D R t1 t2)(hk:P.kind=0)(g:¬D<0)(ga:(A ==0)=false)(g1:Ka6 P r near far t1):Ctr Tryz.prog 200 [.agg (ryC r),.agg (plC P),.one (.int .i64 near),.one (.int .i64 far)] m (.tup [(true,htC (htV r P t1)),(false,[.bool true])]) m:=by
 refine Ctr.en Tryz.func200 [.cell 8 183,.tmp 9] 98 fun hwf Q hQ=>?_
 obtain ⟨hA,hB,hC,hD,hR,h1,h2⟩:=hE
 have gx:plC P=[.int .i64 P.kind,.int .i64 P.paint,.int .i64 (P.P 0 0),.int .i64 (P.P 0 1),.int .i64 (P.P 0 2),.int .i64 (P.P 1 0),.int .i64 (P.P 1 1),.int .i64 (P.P 1 2),.int .i64 (P.P 2 0),.int .i64 (P.P 2 1),.int .i64 (P.P 2 2),.int .i64 P.r]:=rfl
 have ng:=Js3 B
 have hn:Jj2 r P t1=Km5 r.d (Jb7 (Jb3 (Je4 r t1) (P.P 0))):=by unfold Jj2;rw [if_pos hk]
 have hv:htC (htV r P t1)=.int .i64 t1::.int .i64 0::(c3C (Je4 r t1)++c3C (Km5 r.d (Jb7 (Jb3 (Je4 r t1) (P.P 0))))):=by unfold htV htC;rw [hn]
 rw [hv] at hQ
 have U6:=ca4 gx @Jh2 @Ji8 (ca4 @Ja4 @Jm4 hA (ca4 hB hC hD (ca4 hR h1 h2 (ca4 g @decide_true @decide_false (ca2 ga ng.symm)))))
 refine AW.c 5 U6 (ca3 (Jg1 r.o (P.P 0)) (Je3 r.d r.d) (Je3 (Jb3 r.o (P.P 0)) r.d)) ?_
 refine AW.d [.rd 0,.rd 0,.ext,.val,.rd 0,.val,.rd 0,.ext,.ext,.val] fol U6 (ca3 (Je3 (Jb3 r.o (P.P 0)) (Jb3 r.o (P.P 0))) Jg3 Ji1) ?_
 refine AW.c 1 U6 (ca2 Jg3 Ji1) ?_
 refine AW.q fun K hK=>?_
 refine AW.c 1 U6 Z0 ?_
 apply AW.x rfl
 apply AW.z
 apply hK;clear hK
 refine AW.c 2 U6 (ca3 Kj3 Ji1 Ji3) ?_
 refine AW.q fun K hK=>?_
 refine AW.c 1 U6 (Kj5 P r t1 near far _ true ⟨fun _=>g1,fun _=>rfl⟩) ?_
 apply AW.x rfl
 apply AW.z
 apply hK;clear hK
 refine AW.c 1 U6 (Ks6 r t1) ?_
 refine AW.d [.val,.rd 0,.rd 0,.rd 0,.rd 0,.ext,.ext,.ext,.val,.wr,.val] fol U6 (ca3 (Jg1 (Je4 r t1) (P.P 0)) (Jm5 (Jb3 (Je4 r t1) (P.P 0))) (Kj6 r (Jb7 (Jb3 (Je4 r t1) (P.P 0))))) ?_
 exact AW.ret (hQ _ _ _ (RetP.z hwf Z0))
theorem Xf9 (r:RY)(P:PL)(near far A B C D R t1 t2:Int)(m:Ja1)(hE:BalE r P A B C D R t1 t2)(hk:P.kind=0)(g:¬D<0)(ga:(A ==0)=false)(g1:¬Ka6 P r near far t1)(g2:Ka6 P r near far t2):Ctr Tryz.prog 195 [.agg (ryC r),.agg (plC P),.one (.int .i64 near),.one (.int .i64 far)] m (.tup [(true,htC (htV r P t2)),(false,[.bool true])]) m:=by
 refine Ctr.en Tryz.func195 [.cell 8 165,.tmp 9] 96 fun hwf Q hQ=>?_
 obtain ⟨hA,hB,hC,hD,hR,h1,h2⟩:=hE
 have gx:plC P=[.int .i64 P.kind,.int .i64 P.paint,.int .i64 (P.P 0 0),.int .i64 (P.P 0 1),.int .i64 (P.P 0 2),.int .i64 (P.P 1 0),.int .i64 (P.P 1 1),.int .i64 (P.P 1 2),.int .i64 (P.P 2 0),.int .i64 (P.P 2 1),.int .i64 (P.P 2 2),.int .i64 P.r]:=rfl
 have ng:=Js3 B
 have hn:Jj2 r P t2=Km5 r.d (Jb7 (Jb3 (Je4 r t2) (P.P 0))):=by unfold Jj2;rw [if_pos hk]
 have hv:htC (htV r P t2)=.int .i64 t2::.int .i64 0::(c3C (Je4 r t2)++c3C (Km5 r.d (Jb7 (Jb3 (Je4 r t2) (P.P 0))))):=by unfold htV htC;rw [hn]
 rw [hv] at hQ
 have U7:=ca4 gx @Jh2 @Ji8 (ca4 @Ja4 @Jm4 hA (ca4 hB hC hD (ca4 hR h1 h2 (ca4 g @decide_true @decide_false ga))))
 refine AW.c 2 U7 (Jk0 r.o (P.P 0)) ?_
 refine AW.d [.val,.rd 0,.val,.rd 0,.ext,.rd 0,.val,.rd 0,.ext,.val,.val] fol U7 (ca2 (Jg4 r.d r.d) (Jg4 (Jb3 r.o (P.P 0)) r.d)) ?_
 refine AW.d [.rd 0,.rd 0,.ext,.val,.rd 0,.val,.rd 0,.ext,.ext,.val] fol U7 (ca3 (Jg4 (Jb3 r.o (P.P 0)) (Jb3 r.o (P.P 0))) Jm2 Jr8) ?_
 refine AW.c 1 U7 (ca2 Jm2 Jr8) ?_
 refine AW.q fun K hK=>?_
 refine AW.c 1 U7 Z0 ?_
 apply AW.x rfl
 apply AW.z
 apply hK;clear hK
 refine AW.c 1 U7 Kx0 ?_
 refine AW.q fun K hK=>?_
 refine AW.c 1 U7 (ca2 Xb2 Jr8) ?_
 apply AW.b
 refine AW.r 3 ?_
 refine ARounds.s fun K hK=>?_
 refine AW.c 1 U7 Z0 ?_
 refine AW.ifT rfl ?_
 refine AW.q fun K hK=>?_
 apply AW.b
 refine AW.c 1 U7 Z0 ?_
 refine AW.d [.rd 0,.rd 0,.val,.val,.ext,.val,.val,.ext,.val,.val,.val,.fl,.wr,.val] fol U7 (ca2 Jq8 (Kk4 P r t1 near far _ false ⟨fun h=>(by cases h),fun h=>absurd h g1⟩)) ?_
 refine AW.c 1 U7 Z0 ?_
 apply AW.x rfl
 apply AW.z
 apply Ja6
 apply hK;clear hK
 refine AW.g U7 Z0 ?_
 apply hK;clear hK
 refine ARounds.s fun K hK=>?_
 refine AW.c 1 U7 Z0 ?_
 refine AW.ifT rfl ?_
 refine AW.q fun K hK=>?_
 apply AW.b
 refine AW.c 1 U7 Z0 ?_
 refine AW.d [.rd 0,.rd 0,.val,.val,.ext,.val,.val,.ext,.val,.val,.val,.fl,.wr,.val] fol U7 (ca2 Jq8 (Kk4 P r t2 near far _ true ⟨fun _=>g2,fun _=>rfl⟩)) ?_
 refine AW.c 1 U7 Z0 ?_
 apply AW.y rfl
 refine AW.d [.rd 0,.val,.rd 0,.val,.val,.rd 0,.ext,.ext,.ext,.val,.wr] fol U7 (ca3 (Jk0 (Je4 r t2) (P.P 0)) (Jq9 (Jb3 (Je4 r t2) (P.P 0))) (Ku4 r (Jb7 (Jb3 (Je4 r t2) (P.P 0))))) ?_
 refine AW.c 1 U7 Z0 ?_
 exact AW.ret (hQ _ _ _ (RetP.z hwf Z0))
theorem Vi2 (r:RY)(P:PL)(near far A B C D R t1 t2:Int)(m:Ja1)(hE:BalE r P A B C D R t1 t2)(hk:P.kind=0)(g:¬D<0)(ga:(A ==0)=false)(g1:¬Ka6 P r near far t1)(g2:Ka6 P r near far t2):Ctr Tryz.prog 200 [.agg (ryC r),.agg (plC P),.one (.int .i64 near),.one (.int .i64 far)] m (.tup [(true,htC (htV r P t2)),(false,[.bool true])]) m:=by
 refine Ctr.en Tryz.func200 [.cell 8 183,.tmp 9] 98 fun hwf Q hQ=>?_
 obtain ⟨hA,hB,hC,hD,hR,h1,h2⟩:=hE
 have gx:plC P=[.int .i64 P.kind,.int .i64 P.paint,.int .i64 (P.P 0 0),.int .i64 (P.P 0 1),.int .i64 (P.P 0 2),.int .i64 (P.P 1 0),.int .i64 (P.P 1 1),.int .i64 (P.P 1 2),.int .i64 (P.P 2 0),.int .i64 (P.P 2 1),.int .i64 (P.P 2 2),.int .i64 P.r]:=rfl
 have ng:=Js3 B
 have hn:Jj2 r P t2=Km5 r.d (Jb7 (Jb3 (Je4 r t2) (P.P 0))):=by unfold Jj2;rw [if_pos hk]
 have hv:htC (htV r P t2)=.int .i64 t2::.int .i64 0::(c3C (Je4 r t2)++c3C (Km5 r.d (Jb7 (Jb3 (Je4 r t2) (P.P 0))))):=by unfold htV htC;rw [hn]
 rw [hv] at hQ
 have U8:=ca4 gx @Jh2 @Ji8 (ca4 @Ja4 @Jm4 hA (ca4 hB hC hD (ca4 hR h1 h2 (ca4 g @decide_true @decide_false (ca2 ga ng.symm)))))
 refine AW.c 5 U8 (ca3 (Jg1 r.o (P.P 0)) (Je3 r.d r.d) (Je3 (Jb3 r.o (P.P 0)) r.d)) ?_
 refine AW.d [.rd 0,.rd 0,.ext,.val,.rd 0,.val,.rd 0,.ext,.ext,.val] fol U8 (ca3 (Je3 (Jb3 r.o (P.P 0)) (Jb3 r.o (P.P 0))) Jg3 Ji1) ?_
 refine AW.c 1 U8 (ca2 Jg3 Ji1) ?_
 refine AW.q fun K hK=>?_
 refine AW.c 1 U8 Z0 ?_
 apply AW.x rfl
 apply AW.z
 apply hK;clear hK
 refine AW.c 2 U8 (ca3 Kj3 Ji1 Ji3) ?_
 refine AW.q fun K hK=>?_
 refine AW.c 1 U8 (Kj5 P r t1 near far _ false ⟨fun h=>(by cases h),fun h=>absurd h g1⟩) ?_
 apply AW.y rfl
 refine AW.c 2 U8 (ca3 Ji1 Ji3 (Kj5 P r t2 near far _ true ⟨fun _=>g2,fun _=>rfl⟩)) ?_
 apply AW.x rfl
 apply AW.z
 apply hK;clear hK
 refine AW.c 1 U8 (Ks6 r t2) ?_
 refine AW.d [.val,.rd 0,.rd 0,.rd 0,.rd 0,.ext,.ext,.ext,.val,.wr,.val] fol U8 (ca3 (Jg1 (Je4 r t2) (P.P 0)) (Jm5 (Jb3 (Je4 r t2) (P.P 0))) (Kj6 r (Jb7 (Jb3 (Je4 r t2) (P.P 0))))) ?_
 exact AW.ret (hQ _ _ _ (RetP.z hwf Z0))
theorem Xs7 (r:RY)(P:PL)(near far A B C D R t1 t2:Int)(m:Ja1)(hE:BalE r P A B C D R t1 t2)(hk:P.kind=0)(g:¬D<0)(ga:(A ==0)=false)(g1:¬Ka6 P r near far t1)(g2:¬Ka6 P r near far t2):Ctr Tryz.prog 195 [.agg (ryC r),.agg (plC P),.one (.int .i64 near),.one (.int .i64 far)] m (.tup [(true,htC ht0),(false,[.bool false])]) m:=by
 refine Ctr.en Tryz.func195 [.cell 8 165,.tmp 9] 96 fun hwf Q hQ=>?_
 obtain ⟨hA,hB,hC,hD,hR,h1,h2⟩:=hE
 have gx:plC P=[.int .i64 P.kind,.int .i64 P.paint,.int .i64 (P.P 0 0),.int .i64 (P.P 0 1),.int .i64 (P.P 0 2),.int .i64 (P.P 1 0),.int .i64 (P.P 1 1),.int .i64 (P.P 1 2),.int .i64 (P.P 2 0),.int .i64 (P.P 2 1),.int .i64 (P.P 2 2),.int .i64 P.r]:=rfl
 have ng:=Js3 B
 have hv:htC ht0=[.int .i64 0,.int .i64 0,.int .i64 0,.int .i64 0,.int .i64 0,.int .i64 0,.int .i64 0,.int .i64 0]:=rfl
 rw [hv] at hQ
 have U9:=ca4 gx @Jh2 @Ji8 (ca4 @Ja4 @Jm4 hA (ca4 hB hC hD (ca4 hR h1 h2 (ca4 g @decide_true @decide_false ga))))
 refine AW.c 2 U9 (Jk0 r.o (P.P 0)) ?_
 refine AW.d [.val,.rd 0,.val,.rd 0,.ext,.rd 0,.val,.rd 0,.ext,.val,.val] fol U9 (ca2 (Jg4 r.d r.d) (Jg4 (Jb3 r.o (P.P 0)) r.d)) ?_
 refine AW.d [.rd 0,.rd 0,.ext,.val,.rd 0,.val,.rd 0,.ext,.ext,.val] fol U9 (ca3 (Jg4 (Jb3 r.o (P.P 0)) (Jb3 r.o (P.P 0))) Jm2 Jr8) ?_
 refine AW.c 1 U9 (ca2 Jm2 Jr8) ?_
 refine AW.q fun K hK=>?_
 refine AW.c 1 U9 Z0 ?_
 apply AW.x rfl
 apply AW.z
 apply hK;clear hK
 refine AW.c 1 U9 Kx0 ?_
 refine AW.q fun K hK=>?_
 refine AW.c 1 U9 (ca2 Xb2 Jr8) ?_
 apply AW.b
 refine AW.r 3 ?_
 refine ARounds.s fun K hK=>?_
 refine AW.c 1 U9 Z0 ?_
 refine AW.ifT rfl ?_
 refine AW.q fun K hK=>?_
 apply AW.b
 refine AW.c 1 U9 Z0 ?_
 refine AW.d [.rd 0,.rd 0,.val,.val,.ext,.val,.val,.ext,.val,.val,.val,.fl,.wr,.val] fol U9 (ca2 Jq8 (Kk4 P r t1 near far _ false ⟨fun h=>(by cases h),fun h=>absurd h g1⟩)) ?_
 refine AW.c 1 U9 Z0 ?_
 apply AW.x rfl
 apply AW.z
 apply Ja6
 apply hK;clear hK
 refine AW.g U9 Z0 ?_
 apply hK;clear hK
 refine ARounds.s fun K hK=>?_
 refine AW.c 1 U9 Z0 ?_
 refine AW.ifT rfl ?_
 refine AW.q fun K hK=>?_
 apply AW.b
 refine AW.c 1 U9 Z0 ?_
 refine AW.d [.rd 0,.rd 0,.val,.val,.ext,.val,.val,.ext,.val,.val,.val,.fl,.wr,.val] fol U9 (ca2 Jq8 (Kk4 P r t2 near far _ false ⟨fun h=>(by cases h),fun h=>absurd h g2⟩)) ?_
 refine AW.c 1 U9 Z0 ?_
 apply AW.x rfl
 apply AW.z
 apply Ja6
 apply hK;clear hK
 refine AW.g U9 Z0 ?_
 apply hK;clear hK
 refine ARounds.s fun K hK=>?_
 refine AW.c 1 U9 Z0 ?_
 refine AW.q fun K hK=>?_
 apply AW.x rfl
 apply AW.v
 apply Jb0
 clear hK
 apply Jb0
 clear hK
 apply Ja5
 apply hK;clear hK
 refine AW.c 1 U9 Z0 ?_
 exact AW.ret (hQ _ _ _ (RetP.z hwf Z0))
theorem Xa1 (r:RY)(P:PL)(near far A B C D R t1 t2:Int)(m:Ja1)(hE:BalE r P A B C D R t1 t2)(hk:P.kind=0)(g:¬D<0)(ga:(A ==0)=false)(g1:¬Ka6 P r near far t1)(g2:¬Ka6 P r near far t2):Ctr Tryz.prog 200 [.agg (ryC r),.agg (plC P),.one (.int .i64 near),.one (.int .i64 far)] m (.tup [(true,htC ht0),(false,[.bool false])]) m:=by
 refine Ctr.en Tryz.func200 [.cell 8 183,.tmp 9] 98 fun hwf Q hQ=>?_
 obtain ⟨hA,hB,hC,hD,hR,h1,h2⟩:=hE
 have gx:plC P=[.int .i64 P.kind,.int .i64 P.paint,.int .i64 (P.P 0 0),.int .i64 (P.P 0 1),.int .i64 (P.P 0 2),.int .i64 (P.P 1 0),.int .i64 (P.P 1 1),.int .i64 (P.P 1 2),.int .i64 (P.P 2 0),.int .i64 (P.P 2 1),.int .i64 (P.P 2 2),.int .i64 P.r]:=rfl
 have ng:=Js3 B
 have hv:htC ht0=[.int .i64 0,.int .i64 0,.int .i64 0,.int .i64 0,.int .i64 0,.int .i64 0,.int .i64 0,.int .i64 0]:=rfl
 rw [hv] at hQ
 have U10:=ca4 gx @Jh2 @Ji8 (ca4 @Ja4 @Jm4 hA (ca4 hB hC hD (ca4 hR h1 h2 (ca4 g @decide_true @decide_false (ca2 ga ng.symm)))))
 refine AW.c 5 U10 (ca3 (Jg1 r.o (P.P 0)) (Je3 r.d r.d) (Je3 (Jb3 r.o (P.P 0)) r.d)) ?_
 refine AW.d [.rd 0,.rd 0,.ext,.val,.rd 0,.val,.rd 0,.ext,.ext,.val] fol U10 (ca3 (Je3 (Jb3 r.o (P.P 0)) (Jb3 r.o (P.P 0))) Jg3 Ji1) ?_
 refine AW.c 1 U10 (ca2 Jg3 Ji1) ?_
 refine AW.q fun K hK=>?_
 refine AW.c 1 U10 Z0 ?_
 apply AW.x rfl
 apply AW.z
 apply hK;clear hK
 refine AW.c 2 U10 (ca3 Kj3 Ji1 Ji3) ?_
 refine AW.q fun K hK=>?_
 refine AW.c 1 U10 (Kj5 P r t1 near far _ false ⟨fun h=>(by cases h),fun h=>absurd h g1⟩) ?_
 apply AW.y rfl
 refine AW.c 2 U10 (ca3 Ji1 Ji3 (Kj5 P r t2 near far _ false ⟨fun h=>(by cases h),fun h=>absurd h g2⟩)) ?_
 apply AW.y rfl
 refine AW.c 1 U10 Z0 ?_
 exact AW.ret (hQ _ _ _ (RetP.z hwf Z0))
structure FacE (r:RY)(P:PL)(e1 e2 h s q:V)(D U W t1:Int):Prop where
 h1:e1=Jb3 (P.P 1) (P.P 0)
 h2:e2=Jb3 (P.P 2) (P.P 0)
 hh:h=Jd4 r.d e2
 hD:Je8 e1 h=D
 hs:s=Jb3 r.o (P.P 0)
 hU:Jh1 (Je8 s h) D=U
 hq:q=Jd4 s e1
 hW:Jh1 (Je8 r.d q) D=W
 ht:Jh1 (Je8 e2 q) D=t1
theorem Vn4 (r:RY)(P:PL)(near far:Int)(e1 e2 h s q:V)(D U W t1:Int)(m:Ja1)(hE:FacE r P e1 e2 h s q D U W t1)(hk:¬P.kind=0)(g0:(D ==0)=true):Ctr Tryz.prog 196 [.agg (ryC r),.agg (plC P),.one (.int .i64 near),.one (.int .i64 far)] m (.tup [(true,htC ht0),(false,[.bool false])]) m:=by
 refine Ctr.en Tryz.func196 [.cell 8 165,.tmp 9] 101 fun hwf Q hQ=>?_
 obtain ⟨h1,h2,hh,hD,hs,hU,hq,hW,ht⟩:=hE
 have gx:plC P=[.int .i64 P.kind,.int .i64 P.paint,.int .i64 (P.P 0 0),.int .i64 (P.P 0 1),.int .i64 (P.P 0 2),.int .i64 (P.P 1 0),.int .i64 (P.P 1 1),.int .i64 (P.P 1 2),.int .i64 (P.P 2 0),.int .i64 (P.P 2 1),.int .i64 (P.P 2 2),.int .i64 P.r]:=rfl
 have hv:htC ht0=[.int .i64 0,.int .i64 0,.int .i64 0,.int .i64 0,.int .i64 0,.int .i64 0,.int .i64 0,.int .i64 0]:=rfl
 rw [hv] at hQ
 have U1:=ca4 gx @Jh2 @Ji8 (ca4 @Ja4 @Jm4 hD (ca4 hU hW ht (ca3 @decide_true @decide_false g0)))
 refine AW.c 1 U1 Z0 ?_
 have q_1:=Jk0 (P.P 1) (P.P 0)
 rw [<-h1] at q_1
 have q_2:=Jk0 (P.P 2) (P.P 0)
 rw [<-h2] at q_2
 refine AW.d [.val,.val,.rd 0,.val,.val,.rd 0,.ext,.val,.val,.rd 0,.val,.val,.rd 0,.ext,.fl,.fl,.wr,.wr] fol U1 (ca2 q_1 q_2) ?_
 have q_3:=Jn0 r.d e2
 rw [<-hh] at q_3
 refine AW.c 2 U1 (ca2 q_3 (Jg4 e1 h)) ?_
 refine AW.q fun K hK=>?_
 refine AW.c 1 U1 Z0 ?_
 apply AW.y rfl
 refine AW.c 1 U1 Z0 ?_
 exact AW.ret (hQ _ _ _ (RetP.z hwf Z0))
theorem Qw3 (r:RY)(P:PL)(near far:Int)(e1 e2 h s q:V)(D U W t1:Int)(m:Ja1)(hE:FacE r P e1 e2 h s q D U W t1)(hk:¬P.kind=0)(g0:(D ==0)=true):Ctr Tryz.prog 201 [.agg (ryC r),.agg (plC P),.one (.int .i64 near),.one (.int .i64 far)] m (.tup [(true,htC ht0),(false,[.bool false])]) m:=by
 refine Ctr.en Tryz.func201 [.cell 8 183,.tmp 9] 100 fun hwf Q hQ=>?_
 obtain ⟨h1,h2,hh,hD,hs,hU,hq,hW,ht⟩:=hE
 have gx:plC P=[.int .i64 P.kind,.int .i64 P.paint,.int .i64 (P.P 0 0),.int .i64 (P.P 0 1),.int .i64 (P.P 0 2),.int .i64 (P.P 1 0),.int .i64 (P.P 1 1),.int .i64 (P.P 1 2),.int .i64 (P.P 2 0),.int .i64 (P.P 2 1),.int .i64 (P.P 2 2),.int .i64 P.r]:=rfl
 have hv:htC ht0=[.int .i64 0,.int .i64 0,.int .i64 0,.int .i64 0,.int .i64 0,.int .i64 0,.int .i64 0,.int .i64 0]:=rfl
 rw [hv] at hQ
 have q_4:=Jg1 (P.P 1) (P.P 0)
 rw [<-h1] at q_4
 have q_5:=Jg1 (P.P 2) (P.P 0)
 rw [<-h2] at q_5
 have q_6:=Ji4 r.d e2
 rw [<-hh] at q_6
 have U2:=ca4 gx @Jh2 @Ji8 (ca4 @Ja4 @Jm4 hD (ca4 hU hW ht (ca3 @decide_true @decide_false g0)))
 refine AW.c 5 U2 (ca4 q_4 q_5 q_6 (Je3 e1 h)) ?_
 refine AW.q fun K hK=>?_
 refine AW.c 1 U2 Z0 ?_
 apply AW.y rfl
 refine AW.c 1 U2 Z0 ?_
 exact AW.ret (hQ _ _ _ (RetP.z hwf Z0))
theorem Vn3 (r:RY)(P:PL)(near far:Int)(e1 e2 h s q:V)(D U W t1:Int)(m:Ja1)(hE:FacE r P e1 e2 h s q D U W t1)(hk:¬P.kind=0)(g0:(D ==0)=false)(g1:U<0):Ctr Tryz.prog 196 [.agg (ryC r),.agg (plC P),.one (.int .i64 near),.one (.int .i64 far)] m (.tup [(true,htC ht0),(false,[.bool false])]) m:=by
 refine Ctr.en Tryz.func196 [.cell 8 165,.tmp 9] 101 fun hwf Q hQ=>?_
 obtain ⟨h1,h2,hh,hD,hs,hU,hq,hW,ht⟩:=hE
 have gx:plC P=[.int .i64 P.kind,.int .i64 P.paint,.int .i64 (P.P 0 0),.int .i64 (P.P 0 1),.int .i64 (P.P 0 2),.int .i64 (P.P 1 0),.int .i64 (P.P 1 1),.int .i64 (P.P 1 2),.int .i64 (P.P 2 0),.int .i64 (P.P 2 1),.int .i64 (P.P 2 2),.int .i64 P.r]:=rfl
 have hv:htC ht0=[.int .i64 0,.int .i64 0,.int .i64 0,.int .i64 0,.int .i64 0,.int .i64 0,.int .i64 0,.int .i64 0]:=rfl
 rw [hv] at hQ
 have U3:=ca4 gx @Jh2 @Ji8 (ca4 @Ja4 @Jm4 hD (ca4 hU hW ht (ca4 @decide_true @decide_false g0 g1)))
 refine AW.c 1 U3 Z0 ?_
 have q_7:=Jk0 (P.P 1) (P.P 0)
 rw [<-h1] at q_7
 have q_8:=Jk0 (P.P 2) (P.P 0)
 rw [<-h2] at q_8
 refine AW.d [.val,.val,.rd 0,.val,.val,.rd 0,.ext,.val,.val,.rd 0,.val,.val,.rd 0,.ext,.fl,.fl,.wr,.wr] fol U3 (ca2 q_7 q_8) ?_
 have q_9:=Jn0 r.d e2
 rw [<-hh] at q_9
 refine AW.c 2 U3 (ca2 q_9 (Jg4 e1 h)) ?_
 refine AW.q fun K hK=>?_
 refine AW.c 1 U3 Z0 ?_
 apply AW.x rfl
 apply AW.z
 apply hK;clear hK
 have q_10:=Jk0 r.o (P.P 0)
 rw [<-hs] at q_10
 have q_11:=Jn0 s e1
 rw [<-hq] at q_11
 refine AW.c 4 U3 (ca4 q_10 (Jg4 s h) Jq8 (ca2 q_11 (Jg4 r.d q))) ?_
 refine AW.q fun K hK=>?_
 refine AW.sr 1 fun K hK=>?_
 simp only [push_cast,simprocAttr,U3]
 apply hK;clear hK
 apply AW.y rfl
 refine AW.c 1 U3 Z0 ?_
 exact AW.ret (hQ _ _ _ (RetP.z hwf Z0))
theorem Qw2 (r:RY)(P:PL)(near far:Int)(e1 e2 h s q:V)(D U W t1:Int)(m:Ja1)(hE:FacE r P e1 e2 h s q D U W t1)(hk:¬P.kind=0)(g0:(D ==0)=false)(g1:U<0):Ctr Tryz.prog 201 [.agg (ryC r),.agg (plC P),.one (.int .i64 near),.one (.int .i64 far)] m (.tup [(true,htC ht0),(false,[.bool false])]) m:=by
 refine Ctr.en Tryz.func201 [.cell 8 183,.tmp 9] 100 fun hwf Q hQ=>?_
 obtain ⟨h1,h2,hh,hD,hs,hU,hq,hW,ht⟩:=hE
 have gx:plC P=[.int .i64 P.kind,.int .i64 P.paint,.int .i64 (P.P 0 0),.int .i64 (P.P 0 1),.int .i64 (P.P 0 2),.int .i64 (P.P 1 0),.int .i64 (P.P 1 1),.int .i64 (P.P 1 2),.int .i64 (P.P 2 0),.int .i64 (P.P 2 1),.int .i64 (P.P 2 2),.int .i64 P.r]:=rfl
 have hv:htC ht0=[.int .i64 0,.int .i64 0,.int .i64 0,.int .i64 0,.int .i64 0,.int .i64 0,.int .i64 0,.int .i64 0]:=rfl
 rw [hv] at hQ
 have q_12:=Jg1 (P.P 1) (P.P 0)
 rw [<-h1] at q_12
 have q_13:=Jg1 (P.P 2) (P.P 0)
 rw [<-h2] at q_13
 have q_14:=Ji4 r.d e2
 rw [<-hh] at q_14
 have U4:=ca4 gx @Jh2 @Ji8 (ca4 @Ja4 @Jm4 hD (ca4 hU hW ht (ca4 @decide_true @decide_false g0 g1)))
 refine AW.c 5 U4 (ca4 q_12 q_13 q_14 (Je3 e1 h)) ?_
 refine AW.q fun K hK=>?_
 refine AW.c 1 U4 Z0 ?_
 apply AW.x rfl
 apply AW.z
 apply hK;clear hK
 have q_15:=Jg1 r.o (P.P 0)
 rw [<-hs] at q_15
 have q_16:=Ji4 s e1
 rw [<-hq] at q_16
 refine AW.c 4 U4 (ca4 q_15 (Je3 s h) Ji3 (ca2 q_16 (Je3 r.d q))) ?_
 refine AW.q fun K hK=>?_
 refine AW.sr 1 fun K hK=>?_
 simp only [push_cast,simprocAttr,U4]
 apply hK;clear hK
 apply AW.y rfl
 refine AW.c 1 U4 Z0 ?_
 exact AW.ret (hQ _ _ _ (RetP.z hwf Z0))
theorem Vn2 (r:RY)(P:PL)(near far:Int)(e1 e2 h s q:V)(D U W t1:Int)(m:Ja1)(hE:FacE r P e1 e2 h s q D U W t1)(hk:¬P.kind=0)(g0:(D ==0)=false)(g1:¬U<0)(g2:W<0):Ctr Tryz.prog 196 [.agg (ryC r),.agg (plC P),.one (.int .i64 near),.one (.int .i64 far)] m (.tup [(true,htC ht0),(false,[.bool false])]) m:=by
 refine Ctr.en Tryz.func196 [.cell 8 165,.tmp 9] 101 fun hwf Q hQ=>?_
 obtain ⟨h1,h2,hh,hD,hs,hU,hq,hW,ht⟩:=hE
 have gx:plC P=[.int .i64 P.kind,.int .i64 P.paint,.int .i64 (P.P 0 0),.int .i64 (P.P 0 1),.int .i64 (P.P 0 2),.int .i64 (P.P 1 0),.int .i64 (P.P 1 1),.int .i64 (P.P 1 2),.int .i64 (P.P 2 0),.int .i64 (P.P 2 1),.int .i64 (P.P 2 2),.int .i64 P.r]:=rfl
 have hv:htC ht0=[.int .i64 0,.int .i64 0,.int .i64 0,.int .i64 0,.int .i64 0,.int .i64 0,.int .i64 0,.int .i64 0]:=rfl
 rw [hv] at hQ
 have U5:=ca4 gx @Jh2 @Ji8 (ca4 @Ja4 @Jm4 hD (ca4 hU hW ht (ca4 @decide_true @decide_false g0 (ca2 g1 g2))))
 refine AW.c 1 U5 Z0 ?_
 have q_17:=Jk0 (P.P 1) (P.P 0)
 rw [<-h1] at q_17
 have q_18:=Jk0 (P.P 2) (P.P 0)
 rw [<-h2] at q_18
 refine AW.d [.val,.val,.rd 0,.val,.val,.rd 0,.ext,.val,.val,.rd 0,.val,.val,.rd 0,.ext,.fl,.fl,.wr,.wr] fol U5 (ca2 q_17 q_18) ?_
 have q_19:=Jn0 r.d e2
 rw [<-hh] at q_19
 refine AW.c 2 U5 (ca2 q_19 (Jg4 e1 h)) ?_
 refine AW.q fun K hK=>?_
 refine AW.c 1 U5 Z0 ?_
 apply AW.x rfl
 apply AW.z
 apply hK;clear hK
 have q_20:=Jk0 r.o (P.P 0)
 rw [<-hs] at q_20
 have q_21:=Jn0 s e1
 rw [<-hq] at q_21
 refine AW.c 4 U5 (ca4 q_20 (Jg4 s h) Jq8 (ca2 q_21 (Jg4 r.d q))) ?_
 refine AW.q fun K hK=>?_
 refine AW.sr 1 fun K hK=>?_
 simp only [push_cast,simprocAttr,U5]
 apply hK;clear hK
 apply AW.y rfl
 refine AW.c 1 U5 Z0 ?_
 exact AW.ret (hQ _ _ _ (RetP.z hwf Z0))
theorem Qw1 (r:RY)(P:PL)(near far:Int)(e1 e2 h s q:V)(D U W t1:Int)(m:Ja1)(hE:FacE r P e1 e2 h s q D U W t1)(hk:¬P.kind=0)(g0:(D ==0)=false)(g1:¬U<0)(g2:W<0):Ctr Tryz.prog 201 [.agg (ryC r),.agg (plC P),.one (.int .i64 near),.one (.int .i64 far)] m (.tup [(true,htC ht0),(false,[.bool false])]) m:=by
 refine Ctr.en Tryz.func201 [.cell 8 183,.tmp 9] 100 fun hwf Q hQ=>?_
 obtain ⟨h1,h2,hh,hD,hs,hU,hq,hW,ht⟩:=hE
 have gx:plC P=[.int .i64 P.kind,.int .i64 P.paint,.int .i64 (P.P 0 0),.int .i64 (P.P 0 1),.int .i64 (P.P 0 2),.int .i64 (P.P 1 0),.int .i64 (P.P 1 1),.int .i64 (P.P 1 2),.int .i64 (P.P 2 0),.int .i64 (P.P 2 1),.int .i64 (P.P 2 2),.int .i64 P.r]:=rfl
 have hv:htC ht0=[.int .i64 0,.int .i64 0,.int .i64 0,.int .i64 0,.int .i64 0,.int .i64 0,.int .i64 0,.int .i64 0]:=rfl
 rw [hv] at hQ
 have q_22:=Jg1 (P.P 1) (P.P 0)
 rw [<-h1] at q_22
 have q_23:=Jg1 (P.P 2) (P.P 0)
 rw [<-h2] at q_23
 have q_24:=Ji4 r.d e2
 rw [<-hh] at q_24
 have U6:=ca4 gx @Jh2 @Ji8 (ca4 @Ja4 @Jm4 hD (ca4 hU hW ht (ca4 @decide_true @decide_false g0 (ca2 g1 g2))))
 refine AW.c 5 U6 (ca4 q_22 q_23 q_24 (Je3 e1 h)) ?_
 refine AW.q fun K hK=>?_
 refine AW.c 1 U6 Z0 ?_
 apply AW.x rfl
 apply AW.z
 apply hK;clear hK
 have q_25:=Jg1 r.o (P.P 0)
 rw [<-hs] at q_25
 have q_26:=Ji4 s e1
 rw [<-hq] at q_26
 refine AW.c 4 U6 (ca4 q_25 (Je3 s h) Ji3 (ca2 q_26 (Je3 r.d q))) ?_
 refine AW.q fun K hK=>?_
 refine AW.sr 1 fun K hK=>?_
 simp only [push_cast,simprocAttr,U6]
 apply hK;clear hK
 apply AW.y rfl
 refine AW.c 1 U6 Z0 ?_
 exact AW.ret (hQ _ _ _ (RetP.z hwf Z0))
theorem Vn1 (r:RY)(P:PL)(near far:Int)(e1 e2 h s q:V)(D U W t1:Int)(m:Ja1)(hE:FacE r P e1 e2 h s q D U W t1)(hk:¬P.kind=0)(g0:(D ==0)=false)(g1:¬U<0)(g2:¬W<0)(g3:65536<Jd6 U W):Ctr Tryz.prog 196 [.agg (ryC r),.agg (plC P),.one (.int .i64 near),.one (.int .i64 far)] m (.tup [(true,htC ht0),(false,[.bool false])]) m:=by
 refine Ctr.en Tryz.func196 [.cell 8 165,.tmp 9] 101 fun hwf Q hQ=>?_
 obtain ⟨h1,h2,hh,hD,hs,hU,hq,hW,ht⟩:=hE
 have gx:plC P=[.int .i64 P.kind,.int .i64 P.paint,.int .i64 (P.P 0 0),.int .i64 (P.P 0 1),.int .i64 (P.P 0 2),.int .i64 (P.P 1 0),.int .i64 (P.P 1 1),.int .i64 (P.P 1 2),.int .i64 (P.P 2 0),.int .i64 (P.P 2 1),.int .i64 (P.P 2 2),.int .i64 P.r]:=rfl
 have hv:htC ht0=[.int .i64 0,.int .i64 0,.int .i64 0,.int .i64 0,.int .i64 0,.int .i64 0,.int .i64 0,.int .i64 0]:=rfl
 rw [hv] at hQ
 have U7:=ca4 gx @Jh2 @Ji8 (ca4 @Ja4 @Jm4 hD (ca4 hU hW ht (ca4 @decide_true @decide_false g0 (ca3 g1 g2 g3))))
 refine AW.c 1 U7 Z0 ?_
 have q_27:=Jk0 (P.P 1) (P.P 0)
 rw [<-h1] at q_27
 have q_28:=Jk0 (P.P 2) (P.P 0)
 rw [<-h2] at q_28
 refine AW.d [.val,.val,.rd 0,.val,.val,.rd 0,.ext,.val,.val,.rd 0,.val,.val,.rd 0,.ext,.fl,.fl,.wr,.wr] fol U7 (ca2 q_27 q_28) ?_
 have q_29:=Jn0 r.d e2
 rw [<-hh] at q_29
 refine AW.c 2 U7 (ca2 q_29 (Jg4 e1 h)) ?_
 refine AW.q fun K hK=>?_
 refine AW.c 1 U7 Z0 ?_
 apply AW.x rfl
 apply AW.z
 apply hK;clear hK
 have q_30:=Jk0 r.o (P.P 0)
 rw [<-hs] at q_30
 have q_31:=Jn0 s e1
 rw [<-hq] at q_31
 refine AW.c 4 U7 (ca4 q_30 (Jg4 s h) Jq8 (ca2 q_31 (Jg4 r.d q))) ?_
 refine AW.q fun K hK=>?_
 refine AW.c 1 U7 Jy7 ?_
 apply AW.y rfl
 refine AW.c 1 U7 Z0 ?_
 exact AW.ret (hQ _ _ _ (RetP.z hwf Z0))
theorem Qw0 (r:RY)(P:PL)(near far:Int)(e1 e2 h s q:V)(D U W t1:Int)(m:Ja1)(hE:FacE r P e1 e2 h s q D U W t1)(hk:¬P.kind=0)(g0:(D ==0)=false)(g1:¬U<0)(g2:¬W<0)(g3:65536<Jd6 U W):Ctr Tryz.prog 201 [.agg (ryC r),.agg (plC P),.one (.int .i64 near),.one (.int .i64 far)] m (.tup [(true,htC ht0),(false,[.bool false])]) m:=by
 refine Ctr.en Tryz.func201 [.cell 8 183,.tmp 9] 100 fun hwf Q hQ=>?_
 obtain ⟨h1,h2,hh,hD,hs,hU,hq,hW,ht⟩:=hE
 have gx:plC P=[.int .i64 P.kind,.int .i64 P.paint,.int .i64 (P.P 0 0),.int .i64 (P.P 0 1),.int .i64 (P.P 0 2),.int .i64 (P.P 1 0),.int .i64 (P.P 1 1),.int .i64 (P.P 1 2),.int .i64 (P.P 2 0),.int .i64 (P.P 2 1),.int .i64 (P.P 2 2),.int .i64 P.r]:=rfl
 have hv:htC ht0=[.int .i64 0,.int .i64 0,.int .i64 0,.int .i64 0,.int .i64 0,.int .i64 0,.int .i64 0,.int .i64 0]:=rfl
 rw [hv] at hQ
 have q_32:=Jg1 (P.P 1) (P.P 0)
 rw [<-h1] at q_32
 have q_33:=Jg1 (P.P 2) (P.P 0)
 rw [<-h2] at q_33
 have q_34:=Ji4 r.d e2
 rw [<-hh] at q_34
 have U8:=ca4 gx @Jh2 @Ji8 (ca4 @Ja4 @Jm4 hD (ca4 hU hW ht (ca4 @decide_true @decide_false g0 (ca3 g1 g2 g3))))
 refine AW.c 5 U8 (ca4 q_32 q_33 q_34 (Je3 e1 h)) ?_
 refine AW.q fun K hK=>?_
 refine AW.c 1 U8 Z0 ?_
 apply AW.x rfl
 apply AW.z
 apply hK;clear hK
 have q_35:=Jg1 r.o (P.P 0)
 rw [<-hs] at q_35
 have q_36:=Ji4 s e1
 rw [<-hq] at q_36
 refine AW.c 4 U8 (ca4 q_35 (Je3 s h) Ji3 (ca2 q_36 (Je3 r.d q))) ?_
 refine AW.q fun K hK=>?_
 refine AW.c 1 U8 Jp0 ?_
 apply AW.y rfl
 refine AW.c 1 U8 Z0 ?_
 exact AW.ret (hQ _ _ _ (RetP.z hwf Z0))
theorem Xp3 (r:RY)(P:PL)(near far:Int)(e1 e2 h s q:V)(D U W t1:Int)(m:Ja1)(hE:FacE r P e1 e2 h s q D U W t1)(hk:¬P.kind=0)(g0:(D ==0)=false)(g1:¬U<0)(g2:¬W<0)(g3:¬65536<Jd6 U W)(gm:¬Ka6 P r near far t1):Ctr Tryz.prog 196 [.agg (ryC r),.agg (plC P),.one (.int .i64 near),.one (.int .i64 far)] m (.tup [(true,htC ht0),(false,[.bool false])]) m:=by
 refine Ctr.en Tryz.func196 [.cell 8 165,.tmp 9] 101 fun hwf Q hQ=>?_
 obtain ⟨h1,h2,hh,hD,hs,hU,hq,hW,ht⟩:=hE
 have gx:plC P=[.int .i64 P.kind,.int .i64 P.paint,.int .i64 (P.P 0 0),.int .i64 (P.P 0 1),.int .i64 (P.P 0 2),.int .i64 (P.P 1 0),.int .i64 (P.P 1 1),.int .i64 (P.P 1 2),.int .i64 (P.P 2 0),.int .i64 (P.P 2 1),.int .i64 (P.P 2 2),.int .i64 P.r]:=rfl
 have hv:htC ht0=[.int .i64 0,.int .i64 0,.int .i64 0,.int .i64 0,.int .i64 0,.int .i64 0,.int .i64 0,.int .i64 0]:=rfl
 rw [hv] at hQ
 have U9:=ca4 gx @Jh2 @Ji8 (ca4 @Ja4 @Jm4 hD (ca4 hU hW ht (ca4 @decide_true @decide_false g0 (ca3 g1 g2 g3))))
 refine AW.c 1 U9 Z0 ?_
 have q_37:=Jk0 (P.P 1) (P.P 0)
 rw [<-h1] at q_37
 have q_38:=Jk0 (P.P 2) (P.P 0)
 rw [<-h2] at q_38
 refine AW.d [.val,.val,.rd 0,.val,.val,.rd 0,.ext,.val,.val,.rd 0,.val,.val,.rd 0,.ext,.fl,.fl,.wr,.wr] fol U9 (ca2 q_37 q_38) ?_
 have q_39:=Jn0 r.d e2
 rw [<-hh] at q_39
 refine AW.c 2 U9 (ca2 q_39 (Jg4 e1 h)) ?_
 refine AW.q fun K hK=>?_
 refine AW.c 1 U9 Z0 ?_
 apply AW.x rfl
 apply AW.z
 apply hK;clear hK
 have q_40:=Jk0 r.o (P.P 0)
 rw [<-hs] at q_40
 have q_41:=Jn0 s e1
 rw [<-hq] at q_41
 refine AW.c 4 U9 (ca4 q_40 (Jg4 s h) Jq8 (ca2 q_41 (Jg4 r.d q))) ?_
 refine AW.q fun K hK=>?_
 refine AW.c 1 U9 Jy7 ?_
 apply AW.x rfl
 apply AW.z
 apply hK;clear hK
 refine AW.d [.rd 0,.rd 0,.rd 0,.rd 0,.ext,.val,.ext,.val,.val,.ext,.val,.val,.val,.fl,.wr,.val] fol U9 (ca3 (Jg4 e2 q) Jq8 (Kk4 P r t1 near far _ false ⟨fun h=>(by cases h),fun h=>absurd h gm⟩)) ?_
 refine AW.q fun K hK=>?_
 refine AW.c 1 U9 Z0 ?_
 apply AW.y rfl
 refine AW.c 1 U9 Z0 ?_
 exact AW.ret (hQ _ _ _ (RetP.z hwf Z0))
theorem Vy5 (r:RY)(P:PL)(near far:Int)(e1 e2 h s q:V)(D U W t1:Int)(m:Ja1)(hE:FacE r P e1 e2 h s q D U W t1)(hk:¬P.kind=0)(g0:(D ==0)=false)(g1:¬U<0)(g2:¬W<0)(g3:¬65536<Jd6 U W)(gm:¬Ka6 P r near far t1):Ctr Tryz.prog 201 [.agg (ryC r),.agg (plC P),.one (.int .i64 near),.one (.int .i64 far)] m (.tup [(true,htC ht0),(false,[.bool false])]) m:=by
 refine Ctr.en Tryz.func201 [.cell 8 183,.tmp 9] 100 fun hwf Q hQ=>?_
 obtain ⟨h1,h2,hh,hD,hs,hU,hq,hW,ht⟩:=hE
 have gx:plC P=[.int .i64 P.kind,.int .i64 P.paint,.int .i64 (P.P 0 0),.int .i64 (P.P 0 1),.int .i64 (P.P 0 2),.int .i64 (P.P 1 0),.int .i64 (P.P 1 1),.int .i64 (P.P 1 2),.int .i64 (P.P 2 0),.int .i64 (P.P 2 1),.int .i64 (P.P 2 2),.int .i64 P.r]:=rfl
 have hv:htC ht0=[.int .i64 0,.int .i64 0,.int .i64 0,.int .i64 0,.int .i64 0,.int .i64 0,.int .i64 0,.int .i64 0]:=rfl
 rw [hv] at hQ
 have q_42:=Jg1 (P.P 1) (P.P 0)
 rw [<-h1] at q_42
 have q_43:=Jg1 (P.P 2) (P.P 0)
 rw [<-h2] at q_43
 have q_44:=Ji4 r.d e2
 rw [<-hh] at q_44
 have U10:=ca4 gx @Jh2 @Ji8 (ca4 @Ja4 @Jm4 hD (ca4 hU hW ht (ca4 @decide_true @decide_false g0 (ca3 g1 g2 g3))))
 refine AW.c 5 U10 (ca4 q_42 q_43 q_44 (Je3 e1 h)) ?_
 refine AW.q fun K hK=>?_
 refine AW.c 1 U10 Z0 ?_
 apply AW.x rfl
 apply AW.z
 apply hK;clear hK
 have q_45:=Jg1 r.o (P.P 0)
 rw [<-hs] at q_45
 have q_46:=Ji4 s e1
 rw [<-hq] at q_46
 refine AW.c 4 U10 (ca4 q_45 (Je3 s h) Ji3 (ca2 q_46 (Je3 r.d q))) ?_
 refine AW.q fun K hK=>?_
 refine AW.c 1 U10 Jp0 ?_
 apply AW.x rfl
 apply AW.z
 apply hK;clear hK
 refine AW.c 1 U10 (ca2 (Je3 e2 q) Ji3) ?_
 refine AW.q fun K hK=>?_
 refine AW.c 1 U10 (Kj5 P r t1 near far _ false ⟨fun h=>(by cases h),fun h=>absurd h gm⟩) ?_
 apply AW.y rfl
 refine AW.c 1 U10 Z0 ?_
 exact AW.ret (hQ _ _ _ (RetP.z hwf Z0))
theorem Xp2 (r:RY)(P:PL)(near far:Int)(e1 e2 h s q:V)(D U W t1:Int)(m:Ja1)(hE:FacE r P e1 e2 h s q D U W t1)(hk:¬P.kind=0)(g0:(D ==0)=false)(g1:¬U<0)(g2:¬W<0)(g3:¬65536<Jd6 U W)(gm:Ka6 P r near far t1):Ctr Tryz.prog 196 [.agg (ryC r),.agg (plC P),.one (.int .i64 near),.one (.int .i64 far)] m (.tup [(true,htC (htV r P t1)),(false,[.bool true])]) m:=by
 refine Ctr.en Tryz.func196 [.cell 8 165,.tmp 9] 101 fun hwf Q hQ=>?_
 obtain ⟨h1,h2,hh,hD,hs,hU,hq,hW,ht⟩:=hE
 have gx:plC P=[.int .i64 P.kind,.int .i64 P.paint,.int .i64 (P.P 0 0),.int .i64 (P.P 0 1),.int .i64 (P.P 0 2),.int .i64 (P.P 1 0),.int .i64 (P.P 1 1),.int .i64 (P.P 1 2),.int .i64 (P.P 2 0),.int .i64 (P.P 2 1),.int .i64 (P.P 2 2),.int .i64 P.r]:=rfl
 have hn:Jj2 r P t1=Km5 r.d (Jb7 (Jd4 e1 e2)):=by unfold Jj2;rw [if_neg hk,h1,h2]
 have hv:htC (htV r P t1)=.int .i64 t1::.int .i64 0::(c3C (Je4 r t1)++c3C (Km5 r.d (Jb7 (Jd4 e1 e2)))):=by unfold htV htC;rw [hn]
 rw [hv] at hQ
 have U11:=ca4 gx @Jh2 @Ji8 (ca4 @Ja4 @Jm4 hD (ca4 hU hW ht (ca4 @decide_true @decide_false g0 (ca3 g1 g2 g3))))
 refine AW.c 1 U11 Z0 ?_
 have q_47:=Jk0 (P.P 1) (P.P 0)
 rw [<-h1] at q_47
 have q_48:=Jk0 (P.P 2) (P.P 0)
 rw [<-h2] at q_48
 refine AW.d [.val,.val,.rd 0,.val,.val,.rd 0,.ext,.val,.val,.rd 0,.val,.val,.rd 0,.ext,.fl,.fl,.wr,.wr] fol U11 (ca2 q_47 q_48) ?_
 have q_49:=Jn0 r.d e2
 rw [<-hh] at q_49
 refine AW.c 2 U11 (ca2 q_49 (Jg4 e1 h)) ?_
 refine AW.q fun K hK=>?_
 refine AW.c 1 U11 Z0 ?_
 apply AW.x rfl
 apply AW.z
 apply hK;clear hK
 have q_50:=Jk0 r.o (P.P 0)
 rw [<-hs] at q_50
 have q_51:=Jn0 s e1
 rw [<-hq] at q_51
 refine AW.c 4 U11 (ca4 q_50 (Jg4 s h) Jq8 (ca2 q_51 (Jg4 r.d q))) ?_
 refine AW.q fun K hK=>?_
 refine AW.c 1 U11 Jy7 ?_
 apply AW.x rfl
 apply AW.z
 apply hK;clear hK
 refine AW.d [.rd 0,.rd 0,.rd 0,.rd 0,.ext,.val,.ext,.val,.val,.ext,.val,.val,.val,.fl,.wr,.val] fol U11 (ca3 (Jg4 e2 q) Jq8 (Kk4 P r t1 near far _ true ⟨fun _=>gm,fun _=>rfl⟩)) ?_
 refine AW.q fun K hK=>?_
 refine AW.c 1 U11 Z0 ?_
 apply AW.x rfl
 apply AW.z
 apply hK;clear hK
 refine AW.d [.rd 0,.rd 0,.rd 0,.ext,.ext,.ext,.val,.wr] fol U11 (ca3 (Jn0 e1 e2) (Jq9 (Jd4 e1 e2)) (Ku4 r (Jb7 (Jd4 e1 e2)))) ?_
 refine AW.c 1 U11 Z0 ?_
 exact AW.ret (hQ _ _ _ (RetP.z hwf Z0))
theorem Vy4 (r:RY)(P:PL)(near far:Int)(e1 e2 h s q:V)(D U W t1:Int)(m:Ja1)(hE:FacE r P e1 e2 h s q D U W t1)(hk:¬P.kind=0)(g0:(D ==0)=false)(g1:¬U<0)(g2:¬W<0)(g3:¬65536<Jd6 U W)(gm:Ka6 P r near far t1):Ctr Tryz.prog 201 [.agg (ryC r),.agg (plC P),.one (.int .i64 near),.one (.int .i64 far)] m (.tup [(true,htC (htV r P t1)),(false,[.bool true])]) m:=by
 refine Ctr.en Tryz.func201 [.cell 8 183,.tmp 9] 100 fun hwf Q hQ=>?_
 obtain ⟨h1,h2,hh,hD,hs,hU,hq,hW,ht⟩:=hE
 have gx:plC P=[.int .i64 P.kind,.int .i64 P.paint,.int .i64 (P.P 0 0),.int .i64 (P.P 0 1),.int .i64 (P.P 0 2),.int .i64 (P.P 1 0),.int .i64 (P.P 1 1),.int .i64 (P.P 1 2),.int .i64 (P.P 2 0),.int .i64 (P.P 2 1),.int .i64 (P.P 2 2),.int .i64 P.r]:=rfl
 have hn:Jj2 r P t1=Km5 r.d (Jb7 (Jd4 e1 e2)):=by unfold Jj2;rw [if_neg hk,h1,h2]
 have hv:htC (htV r P t1)=.int .i64 t1::.int .i64 0::(c3C (Je4 r t1)++c3C (Km5 r.d (Jb7 (Jd4 e1 e2)))):=by unfold htV htC;rw [hn]
 rw [hv] at hQ
 have q_52:=Jg1 (P.P 1) (P.P 0)
 rw [<-h1] at q_52
 have q_53:=Jg1 (P.P 2) (P.P 0)
 rw [<-h2] at q_53
 have q_54:=Ji4 r.d e2
 rw [<-hh] at q_54
 have U12:=ca4 gx @Jh2 @Ji8 (ca4 @Ja4 @Jm4 hD (ca4 hU hW ht (ca4 @decide_true @decide_false g0 (ca3 g1 g2 g3))))
 refine AW.c 5 U12 (ca4 q_52 q_53 q_54 (Je3 e1 h)) ?_
 refine AW.q fun K hK=>?_
 refine AW.c 1 U12 Z0 ?_
 apply AW.x rfl
 apply AW.z
 apply hK;clear hK
 have q_55:=Jg1 r.o (P.P 0)
 rw [<-hs] at q_55
 have q_56:=Ji4 s e1
 rw [<-hq] at q_56
 refine AW.c 4 U12 (ca4 q_55 (Je3 s h) Ji3 (ca2 q_56 (Je3 r.d q))) ?_
 refine AW.q fun K hK=>?_
 refine AW.c 1 U12 Jp0 ?_
 apply AW.x rfl
 apply AW.z
 apply hK;clear hK
 refine AW.c 1 U12 (ca2 (Je3 e2 q) Ji3) ?_
 refine AW.q fun K hK=>?_
 refine AW.c 1 U12 (Kj5 P r t1 near far _ true ⟨fun _=>gm,fun _=>rfl⟩) ?_
 apply AW.x rfl
 apply AW.z
 apply hK;clear hK
 refine AW.d [.val,.rd 0,.val,.ext,.rd 0,.rd 0,.rd 0,.ext,.ext,.ext,.val,.wr,.val] fol U12 (ca4 (Ks6 r t1) (Ji4 e1 e2) (Jm5 (Jd4 e1 e2)) (Kj6 r (Jb7 (Jd4 e1 e2)))) ?_
 exact AW.ret (hQ _ _ _ (RetP.z hwf Z0))
open Classical in
noncomputable def Jv7 (r:RY)(P:PL):List Int :=
  if P.kind=0 then
    if Jf5 (Jd8 (Je8 (Jb3 r.o (P.P 0)) r.d) (Je8 (Jb3 r.o (P.P 0)) r.d)) (Jd8 (Je8 r.d r.d) (Jf5 (Je8 (Jb3 r.o (P.P 0)) (Jb3 r.o (P.P 0))) (Jd8 P.r P.r)))<0\/Je8 r.d r.d=0 then [] else
      [Jh1 (Jf5 (-Ja2 (Je8 (Jb3 r.o (P.P 0)) r.d)) (Jn4 (Jf5 (Jd8 (Je8 (Jb3 r.o (P.P 0)) r.d) (Je8 (Jb3 r.o (P.P 0)) r.d)) (Jd8 (Je8 r.d r.d) (Jf5 (Je8 (Jb3 r.o (P.P 0)) (Jb3 r.o (P.P 0))) (Jd8 P.r P.r)))))) (Je8 r.d r.d),
       Jh1 (Jf5 (Jn4 (Jf5 (Jd8 (Je8 (Jb3 r.o (P.P 0)) r.d) (Je8 (Jb3 r.o (P.P 0)) r.d)) (Jd8 (Je8 r.d r.d) (Jf5 (Je8 (Jb3 r.o (P.P 0)) (Jb3 r.o (P.P 0))) (Jd8 P.r P.r))))) (Je8 (Jb3 r.o (P.P 0)) r.d)) (Je8 r.d r.d)]
  else
    if Je8 (Jb3 (P.P 1) (P.P 0)) (Jd4 r.d (Jb3 (P.P 2) (P.P 0)))=0 \/
       Jh1 (Je8 (Jb3 r.o (P.P 0)) (Jd4 r.d (Jb3 (P.P 2) (P.P 0)))) (Je8 (Jb3 (P.P 1) (P.P 0)) (Jd4 r.d (Jb3 (P.P 2) (P.P 0))))<0 \/
       Jh1 (Je8 r.d (Jd4 (Jb3 r.o (P.P 0)) (Jb3 (P.P 1) (P.P 0)))) (Je8 (Jb3 (P.P 1) (P.P 0)) (Jd4 r.d (Jb3 (P.P 2) (P.P 0))))<0 \/
       65536<Jd6 (Jh1 (Je8 (Jb3 r.o (P.P 0)) (Jd4 r.d (Jb3 (P.P 2) (P.P 0)))) (Je8 (Jb3 (P.P 1) (P.P 0)) (Jd4 r.d (Jb3 (P.P 2) (P.P 0))))) (Jh1 (Je8 r.d (Jd4 (Jb3 r.o (P.P 0)) (Jb3 (P.P 1) (P.P 0)))) (Je8 (Jb3 (P.P 1) (P.P 0)) (Jd4 r.d (Jb3 (P.P 2) (P.P 0))))) then [] else
      [Jh1 (Je8 (Jb3 (P.P 2) (P.P 0)) (Jd4 (Jb3 r.o (P.P 0)) (Jb3 (P.P 1) (P.P 0)))) (Je8 (Jb3 (P.P 1) (P.P 0)) (Jd4 r.d (Jb3 (P.P 2) (P.P 0))))]
open Classical in
noncomputable def Jr2 (r:RY)(P:PL)(near far:Int):Option Int:=Xd0 (Jv7 r P) (fun t=>decide (Ka0 (Jc7 P) (Je4 r t))) near far
noncomputable def Ju1 (r:RY)(P:PL):Option Int->HT × Bool
 | none=>(ht0,false)
 | some t=>(htV r P t,true)
open Classical in
theorem Jz6 (r:RY)(P:PL)(near far t:Int):okT (fun t=>decide (Ka0 (Jc7 P) (Je4 r t))) near far t=true↔Ka6 P r near far t:=by
 unfold okT Ka6;simp [and_assoc]
theorem Jk5 {r:RY}{P:PL}{near far:Int}(h:Jv7 r P=[]):Jr2 r P near far=none:=by unfold Jr2;rw [h];rfl
theorem Qi7 {r:RY}{P:PL}{near far t:Int}(h:Jv7 r P=[t]):(Ka6 P r near far t->Jr2 r P near far=some t)/\(¬Ka6 P r near far t->Jr2 r P near far=none):=by
 unfold Jr2 Xd0;rw [h]
 refine ⟨fun g=>?_,fun g=>?_⟩
 ·rw [List.find?_cons_of_pos ((Jz6 r P near far t).2 g)]
 rw [List.find?_cons_of_neg (fun q=>g ((Jz6 r P near far t).1 q))];rfl
theorem Qi6 {r:RY}{P:PL}{near far t u:Int}(h:Jv7 r P=[t,u]):(Ka6 P r near far t->Jr2 r P near far=some t)/\(¬Ka6 P r near far t->Ka6 P r near far u->Jr2 r P near far=some u)/\(¬Ka6 P r near far t->¬Ka6 P r near far u->Jr2 r P near far=none):=by
 unfold Jr2 Xd0;rw [h]
 refine ⟨fun g=>?_,fun g g2=>?_,fun g g2=>?_⟩
 ·rw [List.find?_cons_of_pos ((Jz6 r P near far t).2 g)]
 ·rw [List.find?_cons_of_neg (fun q=>g ((Jz6 r P near far t).1 q)),List.find?_cons_of_pos ((Jz6 r P near far u).2 g2)]
 rw [List.find?_cons_of_neg (fun q=>g ((Jz6 r P near far t).1 q)),List.find?_cons_of_neg (fun q=>g2 ((Jz6 r P near far u).1 q))];rfl
theorem Xs8 (r:RY)(P:PL)(near far:Int)(m:Ja1)(hk:P.kind=0):Ctr Tryz.prog 195 [.agg (ryC r),.agg (plC P),.one (.int .i64 near),.one (.int .i64 far)] m (.tup [(true,htC (Ju1 r P (Jr2 r P near far)).1),(false,[.bool (Ju1 r P (Jr2 r P near far)).2])]) m:=by
 obtain ⟨A,hA⟩:∃ A,Je8 r.d r.d=A:=⟨_,rfl⟩
 obtain ⟨B,hB⟩:∃ B,Je8 (Jb3 r.o (P.P 0)) r.d=B:=⟨_,rfl⟩
 obtain ⟨C,hC⟩:∃ C,Jf5 (Je8 (Jb3 r.o (P.P 0)) (Jb3 r.o (P.P 0))) (Jd8 P.r P.r)=C:=⟨_,rfl⟩
 obtain ⟨D,hD⟩:∃ D,Jf5 (Jd8 B B) (Jd8 A C)=D:=⟨_,rfl⟩
 obtain ⟨R,hR⟩:∃ R,Jn4 D=R:=⟨_,rfl⟩
 obtain ⟨t1,h1⟩:∃ t,Jh1 (Jf5 (-Ja2 B) R) A=t:=⟨_,rfl⟩
 obtain ⟨t2,h2⟩:∃ t,Jh1 (Jf5 R B) A=t:=⟨_,rfl⟩
 have hE:BalE r P A B C D R t1 t2:=⟨hA,hB,hC,hD,hR,h1,h2⟩
 have hc:Jv7 r P=if D<0\/A=0 then [] else [t1,t2]:=by
  unfold Jv7;rw [if_pos hk,hA,hB,hC,hD,hR,h1,h2]
 by_cases g:D<0
 ·rw [Jk5 (by rw [hc,if_pos (.inl g)])];exact Vp4 r P near far A B C D R t1 t2 m hE hk g
 by_cases ga:A=0
 ·rw [Jk5 (by rw [hc,if_pos (.inr ga)])];exact Vp3 r P near far A B C D R t1 t2 m hE hk g (by rw [ga];rfl)
 have gb:(A ==0)=false:=by simpa using ga
 have hc2:Jv7 r P=[t1,t2]:=by rw [hc,if_neg (fun h=>h.elim g ga)]
 obtain ⟨k1,k2,k3⟩:=Qi6 (near:=near) (far:=far) hc2
 by_cases g1:Ka6 P r near far t1
 ·rw [k1 g1];exact Xg0 r P near far A B C D R t1 t2 m hE hk g gb g1
 by_cases g2:Ka6 P r near far t2
 ·rw [k2 g1 g2];exact Xf9 r P near far A B C D R t1 t2 m hE hk g gb g1 g2
 rw [k3 g1 g2];exact Xs7 r P near far A B C D R t1 t2 m hE hk g gb g1 g2
theorem Xp4 (r:RY)(P:PL)(near far:Int)(m:Ja1)(hk:¬P.kind=0):Ctr Tryz.prog 196 [.agg (ryC r),.agg (plC P),.one (.int .i64 near),.one (.int .i64 far)] m (.tup [(true,htC (Ju1 r P (Jr2 r P near far)).1),(false,[.bool (Ju1 r P (Jr2 r P near far)).2])]) m:=by
 obtain ⟨e1,h1⟩:∃ e,e=Jb3 (P.P 1) (P.P 0):=⟨_,rfl⟩
 obtain ⟨e2,h2⟩:∃ e,e=Jb3 (P.P 2) (P.P 0):=⟨_,rfl⟩
 obtain ⟨h,hh⟩:∃ h,h=Jd4 r.d e2:=⟨_,rfl⟩
 obtain ⟨D,hD⟩:∃ D,Je8 e1 h=D:=⟨_,rfl⟩
 obtain ⟨s,hs⟩:∃ s,s=Jb3 r.o (P.P 0):=⟨_,rfl⟩
 obtain ⟨U,hU⟩:∃ U,Jh1 (Je8 s h) D=U:=⟨_,rfl⟩
 obtain ⟨q,hq⟩:∃ q,q=Jd4 s e1:=⟨_,rfl⟩
 obtain ⟨W,hW⟩:∃ W,Jh1 (Je8 r.d q) D=W:=⟨_,rfl⟩
 obtain ⟨t1,ht⟩:∃ t,Jh1 (Je8 e2 q) D=t:=⟨_,rfl⟩
 have hE:FacE r P e1 e2 h s q D U W t1:=⟨h1,h2,hh,hD,hs,hU,hq,hW,ht⟩
 have hc:Jv7 r P=if D=0\/U<0\/W<0\/65536<Jd6 U W then [] else [t1]:=by
  unfold Jv7;rw [if_neg hk,<-h1,<-h2,<-hh,<-hs,<-hq,hD,hU,hW,ht]
 by_cases g0:D=0
 ·rw [Jk5 (by rw [hc,if_pos (.inl g0)])];exact Vn4 r P near far e1 e2 h s q D U W t1 m hE hk (by rw [g0];rfl)
 have gb:(D ==0)=false:=by simpa using g0
 by_cases g1:U<0
 ·rw [Jk5 (by rw [hc,if_pos (.inr (.inl g1))])];exact Vn3 r P near far e1 e2 h s q D U W t1 m hE hk gb g1
 by_cases g2:W<0
 ·rw [Jk5 (by rw [hc,if_pos (.inr (.inr (.inl g2)))])];exact Vn2 r P near far e1 e2 h s q D U W t1 m hE hk gb g1 g2
 by_cases g3:65536<Jd6 U W
 ·rw [Jk5 (by rw [hc,if_pos (.inr (.inr (.inr g3)))])];exact Vn1 r P near far e1 e2 h s q D U W t1 m hE hk gb g1 g2 g3
 have hc2:Jv7 r P=[t1]:=by rw [hc,if_neg (fun h=>h.elim g0 fun h=>h.elim g1 fun h=>h.elim g2 g3)]
 obtain ⟨k1,k2⟩:=Qi7 (near:=near) (far:=far) hc2
 by_cases gm:Ka6 P r near far t1
 ·rw [k1 gm];exact Xp2 r P near far e1 e2 h s q D U W t1 m hE hk gb g1 g2 g3 gm
 rw [k2 gm];exact Xp3 r P near far e1 e2 h s q D U W t1 m hE hk gb g1 g2 g3 gm
theorem Xa2 (r:RY)(P:PL)(near far:Int)(m:Ja1)(hk:P.kind=0):Ctr Tryz.prog 200 [.agg (ryC r),.agg (plC P),.one (.int .i64 near),.one (.int .i64 far)] m (.tup [(true,htC (Ju1 r P (Jr2 r P near far)).1),(false,[.bool (Ju1 r P (Jr2 r P near far)).2])]) m:=by
 obtain ⟨A,hA⟩:∃ A,Je8 r.d r.d=A:=⟨_,rfl⟩
 obtain ⟨B,hB⟩:∃ B,Je8 (Jb3 r.o (P.P 0)) r.d=B:=⟨_,rfl⟩
 obtain ⟨C,hC⟩:∃ C,Jf5 (Je8 (Jb3 r.o (P.P 0)) (Jb3 r.o (P.P 0))) (Jd8 P.r P.r)=C:=⟨_,rfl⟩
 obtain ⟨D,hD⟩:∃ D,Jf5 (Jd8 B B) (Jd8 A C)=D:=⟨_,rfl⟩
 obtain ⟨R,hR⟩:∃ R,Jn4 D=R:=⟨_,rfl⟩
 obtain ⟨t1,h1⟩:∃ t,Jh1 (Jf5 (-Ja2 B) R) A=t:=⟨_,rfl⟩
 obtain ⟨t2,h2⟩:∃ t,Jh1 (Jf5 R B) A=t:=⟨_,rfl⟩
 have hE:BalE r P A B C D R t1 t2:=⟨hA,hB,hC,hD,hR,h1,h2⟩
 have hc:Jv7 r P=if D<0\/A=0 then [] else [t1,t2]:=by
  unfold Jv7;rw [if_pos hk,hA,hB,hC,hD,hR,h1,h2]
 by_cases g:D<0
 ·rw [Jk5 (by rw [hc,if_pos (.inl g)])];exact Qw8 r P near far A B C D R t1 t2 m hE hk g
 by_cases ga:A=0
 ·rw [Jk5 (by rw [hc,if_pos (.inr ga)])];exact Qw7 r P near far A B C D R t1 t2 m hE hk g (by rw [ga];rfl)
 have gb:(A ==0)=false:=by simpa using ga
 have hc2:Jv7 r P=[t1,t2]:=by rw [hc,if_neg (fun h=>h.elim g ga)]
 obtain ⟨k1,k2,k3⟩:=Qi6 (near:=near) (far:=far) hc2
 by_cases g1:Ka6 P r near far t1
 ·rw [k1 g1];exact Vi3 r P near far A B C D R t1 t2 m hE hk g gb g1
 by_cases g2:Ka6 P r near far t2
 ·rw [k2 g1 g2];exact Vi2 r P near far A B C D R t1 t2 m hE hk g gb g1 g2
 rw [k3 g1 g2];exact Xa1 r P near far A B C D R t1 t2 m hE hk g gb g1 g2
theorem Vy6 (r:RY)(P:PL)(near far:Int)(m:Ja1)(hk:¬P.kind=0):Ctr Tryz.prog 201 [.agg (ryC r),.agg (plC P),.one (.int .i64 near),.one (.int .i64 far)] m (.tup [(true,htC (Ju1 r P (Jr2 r P near far)).1),(false,[.bool (Ju1 r P (Jr2 r P near far)).2])]) m:=by
 obtain ⟨e1,h1⟩:∃ e,e=Jb3 (P.P 1) (P.P 0):=⟨_,rfl⟩
 obtain ⟨e2,h2⟩:∃ e,e=Jb3 (P.P 2) (P.P 0):=⟨_,rfl⟩
 obtain ⟨h,hh⟩:∃ h,h=Jd4 r.d e2:=⟨_,rfl⟩
 obtain ⟨D,hD⟩:∃ D,Je8 e1 h=D:=⟨_,rfl⟩
 obtain ⟨s,hs⟩:∃ s,s=Jb3 r.o (P.P 0):=⟨_,rfl⟩
 obtain ⟨U,hU⟩:∃ U,Jh1 (Je8 s h) D=U:=⟨_,rfl⟩
 obtain ⟨q,hq⟩:∃ q,q=Jd4 s e1:=⟨_,rfl⟩
 obtain ⟨W,hW⟩:∃ W,Jh1 (Je8 r.d q) D=W:=⟨_,rfl⟩
 obtain ⟨t1,ht⟩:∃ t,Jh1 (Je8 e2 q) D=t:=⟨_,rfl⟩
 have hE:FacE r P e1 e2 h s q D U W t1:=⟨h1,h2,hh,hD,hs,hU,hq,hW,ht⟩
 have hc:Jv7 r P=if D=0\/U<0\/W<0\/65536<Jd6 U W then [] else [t1]:=by
  unfold Jv7;rw [if_neg hk,<-h1,<-h2,<-hh,<-hs,<-hq,hD,hU,hW,ht]
 by_cases g0:D=0
 ·rw [Jk5 (by rw [hc,if_pos (.inl g0)])];exact Qw3 r P near far e1 e2 h s q D U W t1 m hE hk (by rw [g0];rfl)
 have gb:(D ==0)=false:=by simpa using g0
 by_cases g1:U<0
 ·rw [Jk5 (by rw [hc,if_pos (.inr (.inl g1))])];exact Qw2 r P near far e1 e2 h s q D U W t1 m hE hk gb g1
 by_cases g2:W<0
 ·rw [Jk5 (by rw [hc,if_pos (.inr (.inr (.inl g2)))])];exact Qw1 r P near far e1 e2 h s q D U W t1 m hE hk gb g1 g2
 by_cases g3:65536<Jd6 U W
 ·rw [Jk5 (by rw [hc,if_pos (.inr (.inr (.inr g3)))])];exact Qw0 r P near far e1 e2 h s q D U W t1 m hE hk gb g1 g2 g3
 have hc2:Jv7 r P=[t1]:=by rw [hc,if_neg (fun h=>h.elim g0 fun h=>h.elim g1 fun h=>h.elim g2 g3)]
 obtain ⟨k1,k2⟩:=Qi7 (near:=near) (far:=far) hc2
 by_cases gm:Ka6 P r near far t1
 ·rw [k1 gm];exact Vy4 r P near far e1 e2 h s q D U W t1 m hE hk gb g1 g2 g3 gm
 rw [k2 gm];exact Vy5 r P near far e1 e2 h s q D U W t1 m hE hk gb g1 g2 g3 gm
theorem Xi5 (r:RY)(M:MV)(near far:Int)(m:Ja1)(hk:M.A.kind=0):Ctr Tryz.prog 127 [.agg (ryC r),.agg (mvC M),.one (.int .i64 near),.one (.int .i64 far)] m (.tup [(true,htC (Ju1 r (atM M r.part) (Jr2 r (atM M r.part) near far)).1),(false,[.bool (Ju1 r (atM M r.part) (Jr2 r (atM M r.part) near far)).2])]) m:=by
 refine Ctr.en Tryz.func127 [.cell 8 165,.tmp 9] 32 fun hwf Q hQ=>?_
 obtain ⟨P,hP⟩:∃ P,P=atM M r.part:=⟨_,rfl⟩
 have hPk:P.kind=M.A.kind:=by rw [hP];rfl
 rw [<-hP] at hQ
 have gx:plC P=[.int .i64 P.kind,.int .i64 P.paint,.int .i64 (P.P 0 0),.int .i64 (P.P 0 1),.int .i64 (P.P 0 2),.int .i64 (P.P 1 0),.int .i64 (P.P 1 1),.int .i64 (P.P 1 2),.int .i64 (P.P 2 0),.int .i64 (P.P 2 1),.int .i64 (P.P 2 2),.int .i64 P.r]:=rfl
 have hkb:(P.kind ==0)=true:=by rw [hPk];exact beq_iff_eq.2 hk
 obtain ⟨o,ho⟩:∃ o,o=Jr2 r P near far:=⟨_,rfl⟩
 have q_1:=at_c M r.part
 rw [<-hP] at q_1
 have U1:=ca4 gx @Kp0 @Jq5 (ca4 @Jh2 @Ji8 @Ja4 hkb)
 refine AW.c 2 U1 q_1 ?_
 refine AW.q fun K hK=>?_
 refine AW.c 1 U1 Z0 ?_
 apply AW.y rfl
 refine AW.sr 1 fun K hK=>?_
 simp only [push_cast,simprocAttr,U1]
 refine CThen.by (Xs8 r P near far _ (by rw [hPk];exact hk)) ?_
 simp only [push_cast,simprocAttr,U1]
 apply hK;clear hK
 exact AW.ret (hQ _ _ _ (RetP.z hwf Z0))
theorem Xi6 (r:RY)(M:MV)(near far:Int)(m:Ja1)(hk:¬M.A.kind=0):Ctr Tryz.prog 127 [.agg (ryC r),.agg (mvC M),.one (.int .i64 near),.one (.int .i64 far)] m (.tup [(true,htC (Ju1 r (atM M r.part) (Jr2 r (atM M r.part) near far)).1),(false,[.bool (Ju1 r (atM M r.part) (Jr2 r (atM M r.part) near far)).2])]) m:=by
 refine Ctr.en Tryz.func127 [.cell 8 165,.tmp 9] 32 fun hwf Q hQ=>?_
 obtain ⟨P,hP⟩:∃ P,P=atM M r.part:=⟨_,rfl⟩
 have hPk:P.kind=M.A.kind:=by rw [hP];rfl
 rw [<-hP] at hQ
 have gx:plC P=[.int .i64 P.kind,.int .i64 P.paint,.int .i64 (P.P 0 0),.int .i64 (P.P 0 1),.int .i64 (P.P 0 2),.int .i64 (P.P 1 0),.int .i64 (P.P 1 1),.int .i64 (P.P 1 2),.int .i64 (P.P 2 0),.int .i64 (P.P 2 1),.int .i64 (P.P 2 2),.int .i64 P.r]:=rfl
 have hkb:(P.kind ==0)=false:=by rw [hPk];simpa using hk
 obtain ⟨o,ho⟩:∃ o,o=Jr2 r P near far:=⟨_,rfl⟩
 have q_2:=at_c M r.part
 rw [<-hP] at q_2
 have U2:=ca4 gx @Kp0 @Jq5 (ca4 @Jh2 @Ji8 @Ja4 hkb)
 refine AW.c 2 U2 q_2 ?_
 refine AW.q fun K hK=>?_
 refine AW.c 1 U2 Z0 ?_
 apply AW.x rfl
 apply AW.z
 apply hK;clear hK
 refine AW.sr 1 fun K hK=>?_
 simp only [push_cast,simprocAttr,U2]
 refine CThen.by (Xp4 r P near far _ (by rw [hPk];exact hk)) ?_
 simp only [push_cast,simprocAttr,U2]
 apply hK;clear hK
 exact AW.ret (hQ _ _ _ (RetP.z hwf Z0))
theorem Kp4 (r:RY)(M:MV)(near far:Int)(m:Ja1):Ctr Tryz.prog 127 [.agg (ryC r),.agg (mvC M),.one (.int .i64 near),.one (.int .i64 far)] m (.tup [(true,htC (Ju1 r (atM M r.part) (Jr2 r (atM M r.part) near far)).1),(false,[.bool (Ju1 r (atM M r.part) (Jr2 r (atM M r.part) near far)).2])]) m:=by
 by_cases hk:M.A.kind=0
 ·exact Xi5 r M near far m hk
 exact Xi6 r M near far m hk
theorem Vw1 (r:RY)(M:MV)(near far:Int)(m:Ja1)(hk:M.A.kind=0):Ctr Tryz.prog 148 [.agg (ryC r),.agg (mvC M),.one (.int .i64 near),.one (.int .i64 far)] m (.tup [(true,htC (Ju1 r (atM M r.part) (Jr2 r (atM M r.part) near far)).1),(false,[.bool (Ju1 r (atM M r.part) (Jr2 r (atM M r.part) near far)).2])]) m:=by
 refine Ctr.en Tryz.func148 [.cell 8 183,.tmp 9] 32 fun hwf Q hQ=>?_
 obtain ⟨P,hP⟩:∃ P,P=atM M r.part:=⟨_,rfl⟩
 have hPk:P.kind=M.A.kind:=by rw [hP];rfl
 rw [<-hP] at hQ
 have gx:plC P=[.int .i64 P.kind,.int .i64 P.paint,.int .i64 (P.P 0 0),.int .i64 (P.P 0 1),.int .i64 (P.P 0 2),.int .i64 (P.P 1 0),.int .i64 (P.P 1 1),.int .i64 (P.P 1 2),.int .i64 (P.P 2 0),.int .i64 (P.P 2 1),.int .i64 (P.P 2 2),.int .i64 P.r]:=rfl
 have hkb:(P.kind ==0)=true:=by rw [hPk];exact beq_iff_eq.2 hk
 obtain ⟨o,ho⟩:∃ o,o=Jr2 r P near far:=⟨_,rfl⟩
 have q_3:=Qw9 M r.part
 rw [<-hP] at q_3
 have U3:=ca4 gx @Kp0 @Jq5 (ca4 @Jh2 @Ji8 @Ja4 hkb)
 refine AW.c 2 U3 q_3 ?_
 refine AW.q fun K hK=>?_
 refine AW.c 1 U3 Z0 ?_
 apply AW.y rfl
 refine AW.sr 1 fun K hK=>?_
 simp only [push_cast,simprocAttr,U3]
 refine CThen.by (Xa2 r P near far _ (by rw [hPk];exact hk)) ?_
 simp only [push_cast,simprocAttr,U3]
 apply hK;clear hK
 exact AW.ret (hQ _ _ _ (RetP.z hwf Z0))
theorem Vw2 (r:RY)(M:MV)(near far:Int)(m:Ja1)(hk:¬M.A.kind=0):Ctr Tryz.prog 148 [.agg (ryC r),.agg (mvC M),.one (.int .i64 near),.one (.int .i64 far)] m (.tup [(true,htC (Ju1 r (atM M r.part) (Jr2 r (atM M r.part) near far)).1),(false,[.bool (Ju1 r (atM M r.part) (Jr2 r (atM M r.part) near far)).2])]) m:=by
 refine Ctr.en Tryz.func148 [.cell 8 183,.tmp 9] 32 fun hwf Q hQ=>?_
 obtain ⟨P,hP⟩:∃ P,P=atM M r.part:=⟨_,rfl⟩
 have hPk:P.kind=M.A.kind:=by rw [hP];rfl
 rw [<-hP] at hQ
 have gx:plC P=[.int .i64 P.kind,.int .i64 P.paint,.int .i64 (P.P 0 0),.int .i64 (P.P 0 1),.int .i64 (P.P 0 2),.int .i64 (P.P 1 0),.int .i64 (P.P 1 1),.int .i64 (P.P 1 2),.int .i64 (P.P 2 0),.int .i64 (P.P 2 1),.int .i64 (P.P 2 2),.int .i64 P.r]:=rfl
 have hkb:(P.kind ==0)=false:=by rw [hPk];simpa using hk
 obtain ⟨o,ho⟩:∃ o,o=Jr2 r P near far:=⟨_,rfl⟩
 have q_4:=Qw9 M r.part
 rw [<-hP] at q_4
 have U4:=ca4 gx @Kp0 @Jq5 (ca4 @Jh2 @Ji8 @Ja4 hkb)
 refine AW.c 2 U4 q_4 ?_
 refine AW.q fun K hK=>?_
 refine AW.c 1 U4 Z0 ?_
 apply AW.x rfl
 apply AW.z
 apply hK;clear hK
 refine AW.sr 1 fun K hK=>?_
 simp only [push_cast,simprocAttr,U4]
 refine CThen.by (Vy6 r P near far _ (by rw [hPk];exact hk)) ?_
 simp only [push_cast,simprocAttr,U4]
 apply hK;clear hK
 exact AW.ret (hQ _ _ _ (RetP.z hwf Z0))
theorem Ks4 (r:RY)(M:MV)(near far:Int)(m:Ja1):Ctr Tryz.prog 148 [.agg (ryC r),.agg (mvC M),.one (.int .i64 near),.one (.int .i64 far)] m (.tup [(true,htC (Ju1 r (atM M r.part) (Jr2 r (atM M r.part) near far)).1),(false,[.bool (Ju1 r (atM M r.part) (Jr2 r (atM M r.part) near far)).2])]) m:=by
 by_cases hk:M.A.kind=0
 ·exact Vw1 r M near far m hk
 exact Vw2 r M near far m hk
end Go.Proofs.YtaannomfigammaaGreat
