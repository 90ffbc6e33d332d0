/- FilmRenders answers true whatever it is given, where all values come to at most 1048576; no other conditions. -/
import Derived.Test.YtaannomfigammaaGreatM6
import Derived.Test.YtaannomfigammaaGreatRows
import Derived.ProofKit
import Derived.OpenShut
set_option linter.unusedSimpArgs false
set_option linter.unusedVariables false
set_option maxRecDepth 100000
set_option maxHeartbeats 4000000
namespace Go.Proofs.YtaannomfigammaaGreat
open Go Go.Eng

theorem bulk_one {H:Type}(d:DataW H):1<=Rows.uptoBulk d:=by
  cases d with
  | lit l=>cases l<;>simp [Rows.uptoBulk]
  | nil=>simp [Rows.uptoBulk]
  | ptr d=>simp [Rows.uptoBulk]
  | slice elems spare=>simp [Rows.uptoBulk]
  | agg parts=>simp [Rows.uptoBulk]
  | iface t d=>simp [Rows.uptoBulk]
  | map entries=>simp [Rows.uptoBulk]
  | held h=>simp [Rows.uptoBulk]
theorem bulk_mem {H:Type}{d:DataW H}:∀ {l:List (DataW H)},d ∈ l->Rows.uptoBulk d<=Rows.uptoBulkAll l
  | x::r,h=>by
    simp only [Rows.uptoBulkAll]
    rcases List.mem_cons.1 h with rfl|h
    · omega
    · have:=bulk_mem h;omega
theorem bulk_len {H:Type}:∀ (l:List (DataW H)),l.length<=Rows.uptoBulkAll l
  | []=>by simp
  | x::r=>by have:=bulk_one x;have:=bulk_len r;simp only [Rows.uptoBulkAll,List.length_cons];omega
theorem isBulk {H:Type}:IsBulk (H:=H) Rows.uptoBulk where
  str:=fun l=>by simp [Rows.uptoBulk]
  agg:=fun l d h=>by have:=bulk_mem h;simp only [Rows.uptoBulk];omega
  row:=fun l s d h=>by have:=bulk_mem h;simp only [Rows.uptoBulk];omega
  len:=fun l s=>by have:=bulk_len l;simp only [Rows.uptoBulk];omega
theorem small {H:Type}{l:List (DataW H)}(hk:Rows.uptoSmall H l=true):∀ d,d ∈ l->Rows.uptoBulk d<=1048576:=fun d hd=>by
  have h1:Rows.uptoBulkAll l<=1048576:=by simpa [Rows.uptoSmall] using hk
  have:=bulk_mem hd;omega
theorem own:ownKnob Tryz.prog.godebug=none:=by kernel_rfl
theorem laidOut:laidOutB Tryz.prog=true:=by kernel_rfl
theorem laid:Qf9 Tryz.prog=true:=by kernel_rfl

theorem catC_of {F:Nat->List CV}{w:Nat}(hF:∀ i,(F i).length=w):∀ (n:Nat) (cells:List CV),cells.length=n*w->(∀ i,i<n->(cells.drop (i*w)).take w=F i)->cells=Jb2 n F
  | 0,cells,hl,_=>by show cells=[];simpa using hl
  | n+1,cells,hl,h=>by
    have hn:(cells.take (n*w)).length=n*w:=by rw [List.length_take,hl,Nat.succ_mul];omega
    have ih:=catC_of hF n (cells.take (n*w)) hn fun i hi=>by
      have:=h i (by omega)
      have hiw:i*w+w<=n*w:=by rw [<-Nat.succ_mul];exact Nat.mul_le_mul_right _ hi
      rw [<-this,List.drop_take,List.take_take,Nat.min_eq_left (by omega)]
    have hlast:=h n (by omega)
    show cells=Jb2 n F++F n
    rw [<-ih,<-hlast,List.take_of_length_le (l:=cells.drop (n*w)) (by rw [List.length_drop,hl,Nat.succ_mul];omega),List.take_append_drop]
theorem pick {β:Type}[Inhabited β]{n:Nat}{P:Nat->β->Prop}(h:∀ i,i<n->∃ y,P i y):∃ f:Nat->β,∀ i,i<n->P i (f i) :=
  ⟨fun i=>if hi:i<n then (h i hi).choose else default,fun i hi=>by dsimp only;rw [dif_pos hi];exact (h i hi).choose_spec⟩
theorem n26:Tryz.prog.cellsOf 26=10:=by kernel_rfl
theorem n3:Tryz.prog.cellsOf 3=1:=by kernel_rfl
theorem fl_3 {B:Nat}{m:Ja1}{cs:List CV}(hg:Eng.Good Tryz.prog B m 3 cs):∃ x0,cs=[.int .i64 x0]:=by
  obtain ⟨x,q3,q4⟩:=hg.int Tryz.underlying3
  exact ⟨x,q3⟩
theorem n2:Tryz.prog.cellsOf 2=1:=by kernel_rfl
theorem fl_2 {B:Nat}{m:Ja1}{cs:List CV}(hg:Eng.Good Tryz.prog B m 2 cs):∃ x0,cs=[.int .i64 x0]:=by
  obtain ⟨x,q3,q4⟩:=hg.int Tryz.underlying2
  exact ⟨x,q3⟩
theorem n22:Tryz.prog.cellsOf 22=1:=by kernel_rfl
theorem fl_22 {B:Nat}{m:Ja1}{cs:List CV}(hg:Eng.Good Tryz.prog B m 22 cs):∃ x0,cs=[.int .u64 x0]/\(0<=x0/\x0<=18446744073709551615):=by
  obtain ⟨x,q3,q4⟩:=hg.int Tryz.underlying22
  exact ⟨x,q3,by simpa [IntKind.min,IntKind.max,IntKind.signed,IntKind.bits] using q4⟩
theorem n24:Tryz.prog.cellsOf 24=3:=by kernel_rfl
theorem fl_24 {B:Nat}{m:Ja1}{cs:List CV}(hg:Eng.Good Tryz.prog B m 24 cs):∃ x0 x1 x2,cs=[.int .i64 x0,.int .i64 x1,.int .i64 x2]:=by
  obtain ⟨h1,h2⟩:=hg.arr Tryz.underlying24
  rw [n24] at h1
  match cs,h1 with
  | [c0,c1,c2],_ =>
    have f0:=h2 0 (by decide)
    try dsimp only at f0
    simp only [n2,Nat.reduceAdd,Nat.reduceMul,Nat.zero_add,Nat.zero_mul,Nat.one_mul,List.drop_zero,List.drop_succ_cons,List.take_succ_cons,List.take_zero,List.drop_nil,List.take_nil] at f0
    obtain ⟨y0,p0⟩:=fl_2 f0
    simp only [List.cons.injEq,and_true] at p0
    have f1:=h2 1 (by decide)
    try dsimp only at f1
    simp only [n2,Nat.reduceAdd,Nat.reduceMul,Nat.zero_add,Nat.zero_mul,Nat.one_mul,List.drop_zero,List.drop_succ_cons,List.take_succ_cons,List.take_zero,List.drop_nil,List.take_nil] at f1
    obtain ⟨y1,p1⟩:=fl_2 f1
    simp only [List.cons.injEq,and_true] at p1
    have f2:=h2 2 (by decide)
    try dsimp only at f2
    simp only [n2,Nat.reduceAdd,Nat.reduceMul,Nat.zero_add,Nat.zero_mul,Nat.one_mul,List.drop_zero,List.drop_succ_cons,List.take_succ_cons,List.take_zero,List.drop_nil,List.take_nil] at f2
    obtain ⟨y2,p2⟩:=fl_2 f2
    simp only [List.cons.injEq,and_true] at p2
    refine ⟨y0,y1,y2,?_⟩
    simp only [p0,p1,p2]
theorem fl_26 {B:Nat}{m:Ja1}{cs:List CV}(hg:Eng.Good Tryz.prog B m 26 cs):∃ x0 x1 x2 x3 x4 x5 x6 x7 x8 x9,cs=[.int .i64 x0,.int .i64 x1,.int .i64 x2,.int .i64 x3,.int .i64 x4,.int .i64 x5,.int .u64 x6,.int .i64 x7,.int .i64 x8,.int .i64 x9]/\(0<=x6/\x6<=18446744073709551615):=by
  obtain ⟨h1,h2⟩:=hg.struct Tryz.underlying26
  rw [n26] at h1
  match cs,h1 with
  | [c0,c1,c2,c3,c4,c5,c6,c7,c8,c9],_ =>
    have f0:=h2 _ (.head _)
    try dsimp only at f0
    simp only [n3,Nat.reduceAdd,Nat.reduceMul,Nat.zero_add,Nat.zero_mul,Nat.one_mul,List.drop_zero,List.drop_succ_cons,List.take_succ_cons,List.take_zero,List.drop_nil,List.take_nil] at f0
    obtain ⟨y0,p0⟩:=fl_3 f0
    simp only [List.cons.injEq,and_true] at p0
    have f1:=h2 _ (.tail _ (.head _))
    try dsimp only at f1
    simp only [n3,Nat.reduceAdd,Nat.reduceMul,Nat.zero_add,Nat.zero_mul,Nat.one_mul,List.drop_zero,List.drop_succ_cons,List.take_succ_cons,List.take_zero,List.drop_nil,List.take_nil] at f1
    obtain ⟨y1,p1⟩:=fl_3 f1
    simp only [List.cons.injEq,and_true] at p1
    have f2:=h2 _ (.tail _ (.tail _ (.head _)))
    try dsimp only at f2
    simp only [n3,Nat.reduceAdd,Nat.reduceMul,Nat.zero_add,Nat.zero_mul,Nat.one_mul,List.drop_zero,List.drop_succ_cons,List.take_succ_cons,List.take_zero,List.drop_nil,List.take_nil] at f2
    obtain ⟨y2,p2⟩:=fl_3 f2
    simp only [List.cons.injEq,and_true] at p2
    have f3:=h2 _ (.tail _ (.tail _ (.tail _ (.head _))))
    try dsimp only at f3
    simp only [n3,Nat.reduceAdd,Nat.reduceMul,Nat.zero_add,Nat.zero_mul,Nat.one_mul,List.drop_zero,List.drop_succ_cons,List.take_succ_cons,List.take_zero,List.drop_nil,List.take_nil] at f3
    obtain ⟨y3,p3⟩:=fl_3 f3
    simp only [List.cons.injEq,and_true] at p3
    have f4:=h2 _ (.tail _ (.tail _ (.tail _ (.tail _ (.head _)))))
    try dsimp only at f4
    simp only [n3,Nat.reduceAdd,Nat.reduceMul,Nat.zero_add,Nat.zero_mul,Nat.one_mul,List.drop_zero,List.drop_succ_cons,List.take_succ_cons,List.take_zero,List.drop_nil,List.take_nil] at f4
    obtain ⟨y4,p4⟩:=fl_3 f4
    simp only [List.cons.injEq,and_true] at p4
    have f5:=h2 _ (.tail _ (.tail _ (.tail _ (.tail _ (.tail _ (.head _))))))
    try dsimp only at f5
    simp only [n2,Nat.reduceAdd,Nat.reduceMul,Nat.zero_add,Nat.zero_mul,Nat.one_mul,List.drop_zero,List.drop_succ_cons,List.take_succ_cons,List.take_zero,List.drop_nil,List.take_nil] at f5
    obtain ⟨y5,p5⟩:=fl_2 f5
    simp only [List.cons.injEq,and_true] at p5
    have f6:=h2 _ (.tail _ (.tail _ (.tail _ (.tail _ (.tail _ (.tail _ (.head _)))))))
    try dsimp only at f6
    simp only [n22,Nat.reduceAdd,Nat.reduceMul,Nat.zero_add,Nat.zero_mul,Nat.one_mul,List.drop_zero,List.drop_succ_cons,List.take_succ_cons,List.take_zero,List.drop_nil,List.take_nil] at f6
    obtain ⟨y6,p6,by6⟩:=fl_22 f6
    simp only [List.cons.injEq,and_true] at p6
    have f7:=h2 _ (.tail _ (.tail _ (.tail _ (.tail _ (.tail _ (.tail _ (.tail _ (.head _))))))))
    try dsimp only at f7
    simp only [n24,Nat.reduceAdd,Nat.reduceMul,Nat.zero_add,Nat.zero_mul,Nat.one_mul,List.drop_zero,List.drop_succ_cons,List.take_succ_cons,List.take_zero,List.drop_nil,List.take_nil] at f7
    obtain ⟨y7,y8,y9,p7⟩:=fl_24 f7
    simp only [List.cons.injEq,and_true] at p7
    refine ⟨y0,y1,y2,y3,y4,y5,y6,y7,y8,y9,?_,by6⟩
    simp only [p0,p1,p2,p3,p4,p5,p6,p7]
theorem n138:Tryz.prog.cellsOf 138=5:=by kernel_rfl
theorem fl_138 {B:Nat}{m:Ja1}{cs:List CV}(hg:Eng.Good Tryz.prog B m 138 cs):∃ x0 x1 x2 x3 x4,cs=[.int .i64 x0,.int .i64 x1,.int .i64 x2,.int .i64 x3,.int .i64 x4]:=by
  obtain ⟨h1,h2⟩:=hg.struct Tryz.underlying138
  rw [n138] at h1
  match cs,h1 with
  | [c0,c1,c2,c3,c4],_ =>
    have f0:=h2 _ (.head _)
    try dsimp only at f0
    simp only [n3,Nat.reduceAdd,Nat.reduceMul,Nat.zero_add,Nat.zero_mul,Nat.one_mul,List.drop_zero,List.drop_succ_cons,List.take_succ_cons,List.take_zero,List.drop_nil,List.take_nil] at f0
    obtain ⟨y0,p0⟩:=fl_3 f0
    simp only [List.cons.injEq,and_true] at p0
    have f1:=h2 _ (.tail _ (.head _))
    try dsimp only at f1
    simp only [n24,Nat.reduceAdd,Nat.reduceMul,Nat.zero_add,Nat.zero_mul,Nat.one_mul,List.drop_zero,List.drop_succ_cons,List.take_succ_cons,List.take_zero,List.drop_nil,List.take_nil] at f1
    obtain ⟨y1,y2,y3,p1⟩:=fl_24 f1
    simp only [List.cons.injEq,and_true] at p1
    have f2:=h2 _ (.tail _ (.tail _ (.head _)))
    try dsimp only at f2
    simp only [n2,Nat.reduceAdd,Nat.reduceMul,Nat.zero_add,Nat.zero_mul,Nat.one_mul,List.drop_zero,List.drop_succ_cons,List.take_succ_cons,List.take_zero,List.drop_nil,List.take_nil] at f2
    obtain ⟨y4,p2⟩:=fl_2 f2
    simp only [List.cons.injEq,and_true] at p2
    refine ⟨y0,y1,y2,y3,y4,?_⟩
    simp only [p0,p1,p2]
theorem n285:Tryz.prog.cellsOf 285=4:=by kernel_rfl
theorem n54:Tryz.prog.cellsOf 54=3:=by kernel_rfl
theorem fl_54 {B:Nat}{m:Ja1}{cs:List CV}(hg:Eng.Good Tryz.prog B m 54 cs):∃ x0 x1 x2,cs=[.int .i64 x0,.int .i64 x1,.int .i64 x2]:=by
  obtain ⟨h1,h2⟩:=hg.arr Tryz.underlying54
  rw [n54] at h1
  match cs,h1 with
  | [c0,c1,c2],_ =>
    have f0:=h2 0 (by decide)
    try dsimp only at f0
    simp only [n2,Nat.reduceAdd,Nat.reduceMul,Nat.zero_add,Nat.zero_mul,Nat.one_mul,List.drop_zero,List.drop_succ_cons,List.take_succ_cons,List.take_zero,List.drop_nil,List.take_nil] at f0
    obtain ⟨y0,p0⟩:=fl_2 f0
    simp only [List.cons.injEq,and_true] at p0
    have f1:=h2 1 (by decide)
    try dsimp only at f1
    simp only [n2,Nat.reduceAdd,Nat.reduceMul,Nat.zero_add,Nat.zero_mul,Nat.one_mul,List.drop_zero,List.drop_succ_cons,List.take_succ_cons,List.take_zero,List.drop_nil,List.take_nil] at f1
    obtain ⟨y1,p1⟩:=fl_2 f1
    simp only [List.cons.injEq,and_true] at p1
    have f2:=h2 2 (by decide)
    try dsimp only at f2
    simp only [n2,Nat.reduceAdd,Nat.reduceMul,Nat.zero_add,Nat.zero_mul,Nat.one_mul,List.drop_zero,List.drop_succ_cons,List.take_succ_cons,List.take_zero,List.drop_nil,List.take_nil] at f2
    obtain ⟨y2,p2⟩:=fl_2 f2
    simp only [List.cons.injEq,and_true] at p2
    refine ⟨y0,y1,y2,?_⟩
    simp only [p0,p1,p2]
theorem fl_285 {B:Nat}{m:Ja1}{cs:List CV}(hg:Eng.Good Tryz.prog B m 285 cs):∃ x0 x1 x2 x3,cs=[.int .i64 x0,.int .i64 x1,.int .i64 x2,.int .i64 x3]:=by
  obtain ⟨h1,h2⟩:=hg.struct Tryz.underlying285
  rw [n285] at h1
  match cs,h1 with
  | [c0,c1,c2,c3],_ =>
    have f0:=h2 _ (.head _)
    try dsimp only at f0
    simp only [n2,Nat.reduceAdd,Nat.reduceMul,Nat.zero_add,Nat.zero_mul,Nat.one_mul,List.drop_zero,List.drop_succ_cons,List.take_succ_cons,List.take_zero,List.drop_nil,List.take_nil] at f0
    obtain ⟨y0,p0⟩:=fl_2 f0
    simp only [List.cons.injEq,and_true] at p0
    have f1:=h2 _ (.tail _ (.head _))
    try dsimp only at f1
    simp only [n54,Nat.reduceAdd,Nat.reduceMul,Nat.zero_add,Nat.zero_mul,Nat.one_mul,List.drop_zero,List.drop_succ_cons,List.take_succ_cons,List.take_zero,List.drop_nil,List.take_nil] at f1
    obtain ⟨y1,y2,y3,p1⟩:=fl_54 f1
    simp only [List.cons.injEq,and_true] at p1
    refine ⟨y0,y1,y2,y3,?_⟩
    simp only [p0,p1]
theorem n146:Tryz.prog.cellsOf 146=4:=by kernel_rfl
theorem fl_146 {B:Nat}{m:Ja1}{cs:List CV}(hg:Eng.Good Tryz.prog B m 146 cs):∃ x0 x1 x2 x3,cs=[.int .i64 x0,.int .i64 x1,.int .i64 x2,.int .i64 x3]:=by
  obtain ⟨h1,h2⟩:=hg.struct Tryz.underlying146
  rw [n146] at h1
  match cs,h1 with
  | [c0,c1,c2,c3],_ =>
    have f0:=h2 _ (.head _)
    try dsimp only at f0
    simp only [n3,Nat.reduceAdd,Nat.reduceMul,Nat.zero_add,Nat.zero_mul,Nat.one_mul,List.drop_zero,List.drop_succ_cons,List.take_succ_cons,List.take_zero,List.drop_nil,List.take_nil] at f0
    obtain ⟨y0,p0⟩:=fl_3 f0
    simp only [List.cons.injEq,and_true] at p0
    have f1:=h2 _ (.tail _ (.head _))
    try dsimp only at f1
    simp only [n3,Nat.reduceAdd,Nat.reduceMul,Nat.zero_add,Nat.zero_mul,Nat.one_mul,List.drop_zero,List.drop_succ_cons,List.take_succ_cons,List.take_zero,List.drop_nil,List.take_nil] at f1
    obtain ⟨y1,p1⟩:=fl_3 f1
    simp only [List.cons.injEq,and_true] at p1
    have f2:=h2 _ (.tail _ (.tail _ (.head _)))
    try dsimp only at f2
    simp only [n3,Nat.reduceAdd,Nat.reduceMul,Nat.zero_add,Nat.zero_mul,Nat.one_mul,List.drop_zero,List.drop_succ_cons,List.take_succ_cons,List.take_zero,List.drop_nil,List.take_nil] at f2
    obtain ⟨y2,p2⟩:=fl_3 f2
    simp only [List.cons.injEq,and_true] at p2
    have f3:=h2 _ (.tail _ (.tail _ (.tail _ (.head _))))
    try dsimp only at f3
    simp only [n2,Nat.reduceAdd,Nat.reduceMul,Nat.zero_add,Nat.zero_mul,Nat.one_mul,List.drop_zero,List.drop_succ_cons,List.take_succ_cons,List.take_zero,List.drop_nil,List.take_nil] at f3
    obtain ⟨y3,p3⟩:=fl_2 f3
    simp only [List.cons.injEq,and_true] at p3
    refine ⟨y0,y1,y2,y3,?_⟩
    simp only [p0,p1,p2,p3]
theorem n150:Tryz.prog.cellsOf 150=13:=by kernel_rfl
theorem n73:Tryz.prog.cellsOf 73=9:=by kernel_rfl
theorem fl_73 {B:Nat}{m:Ja1}{cs:List CV}(hg:Eng.Good Tryz.prog B m 73 cs):∃ x0 x1 x2 x3 x4 x5 x6 x7 x8,cs=[.int .i64 x0,.int .i64 x1,.int .i64 x2,.int .i64 x3,.int .i64 x4,.int .i64 x5,.int .i64 x6,.int .i64 x7,.int .i64 x8]:=by
  obtain ⟨h1,h2⟩:=hg.arr Tryz.underlying73
  rw [n73] at h1
  match cs,h1 with
  | [c0,c1,c2,c3,c4,c5,c6,c7,c8],_ =>
    have f0:=h2 0 (by decide)
    try dsimp only at f0
    simp only [n54,Nat.reduceAdd,Nat.reduceMul,Nat.zero_add,Nat.zero_mul,Nat.one_mul,List.drop_zero,List.drop_succ_cons,List.take_succ_cons,List.take_zero,List.drop_nil,List.take_nil] at f0
    obtain ⟨y0,y1,y2,p0⟩:=fl_54 f0
    simp only [List.cons.injEq,and_true] at p0
    have f1:=h2 1 (by decide)
    try dsimp only at f1
    simp only [n54,Nat.reduceAdd,Nat.reduceMul,Nat.zero_add,Nat.zero_mul,Nat.one_mul,List.drop_zero,List.drop_succ_cons,List.take_succ_cons,List.take_zero,List.drop_nil,List.take_nil] at f1
    obtain ⟨y3,y4,y5,p1⟩:=fl_54 f1
    simp only [List.cons.injEq,and_true] at p1
    have f2:=h2 2 (by decide)
    try dsimp only at f2
    simp only [n54,Nat.reduceAdd,Nat.reduceMul,Nat.zero_add,Nat.zero_mul,Nat.one_mul,List.drop_zero,List.drop_succ_cons,List.take_succ_cons,List.take_zero,List.drop_nil,List.take_nil] at f2
    obtain ⟨y6,y7,y8,p2⟩:=fl_54 f2
    simp only [List.cons.injEq,and_true] at p2
    refine ⟨y0,y1,y2,y3,y4,y5,y6,y7,y8,?_⟩
    simp only [p0,p1,p2]
theorem fl_150 {B:Nat}{m:Ja1}{cs:List CV}(hg:Eng.Good Tryz.prog B m 150 cs):∃ x0 x1 x2 x3 x4 x5 x6 x7 x8 x9 x10 x11 x12,cs=[.int .i64 x0,.int .i64 x1,.int .i64 x2,.int .i64 x3,.int .i64 x4,.int .i64 x5,.int .i64 x6,.int .i64 x7,.int .i64 x8,.int .i64 x9,.int .i64 x10,.int .i64 x11,.int .i64 x12]:=by
  obtain ⟨h1,h2⟩:=hg.struct Tryz.underlying150
  rw [n150] at h1
  match cs,h1 with
  | [c0,c1,c2,c3,c4,c5,c6,c7,c8,c9,c10,c11,c12],_ =>
    have f0:=h2 _ (.head _)
    try dsimp only at f0
    simp only [n3,Nat.reduceAdd,Nat.reduceMul,Nat.zero_add,Nat.zero_mul,Nat.one_mul,List.drop_zero,List.drop_succ_cons,List.take_succ_cons,List.take_zero,List.drop_nil,List.take_nil] at f0
    obtain ⟨y0,p0⟩:=fl_3 f0
    simp only [List.cons.injEq,and_true] at p0
    have f1:=h2 _ (.tail _ (.head _))
    try dsimp only at f1
    simp only [n3,Nat.reduceAdd,Nat.reduceMul,Nat.zero_add,Nat.zero_mul,Nat.one_mul,List.drop_zero,List.drop_succ_cons,List.take_succ_cons,List.take_zero,List.drop_nil,List.take_nil] at f1
    obtain ⟨y1,p1⟩:=fl_3 f1
    simp only [List.cons.injEq,and_true] at p1
    have f2:=h2 _ (.tail _ (.tail _ (.head _)))
    try dsimp only at f2
    simp only [n3,Nat.reduceAdd,Nat.reduceMul,Nat.zero_add,Nat.zero_mul,Nat.one_mul,List.drop_zero,List.drop_succ_cons,List.take_succ_cons,List.take_zero,List.drop_nil,List.take_nil] at f2
    obtain ⟨y2,p2⟩:=fl_3 f2
    simp only [List.cons.injEq,and_true] at p2
    have f3:=h2 _ (.tail _ (.tail _ (.tail _ (.head _))))
    try dsimp only at f3
    simp only [n73,Nat.reduceAdd,Nat.reduceMul,Nat.zero_add,Nat.zero_mul,Nat.one_mul,List.drop_zero,List.drop_succ_cons,List.take_succ_cons,List.take_zero,List.drop_nil,List.take_nil] at f3
    obtain ⟨y3,y4,y5,y6,y7,y8,y9,y10,y11,p3⟩:=fl_73 f3
    simp only [List.cons.injEq,and_true] at p3
    have f4:=h2 _ (.tail _ (.tail _ (.tail _ (.tail _ (.head _)))))
    try dsimp only at f4
    simp only [n2,Nat.reduceAdd,Nat.reduceMul,Nat.zero_add,Nat.zero_mul,Nat.one_mul,List.drop_zero,List.drop_succ_cons,List.take_succ_cons,List.take_zero,List.drop_nil,List.take_nil] at f4
    obtain ⟨y12,p4⟩:=fl_2 f4
    simp only [List.cons.injEq,and_true] at p4
    refine ⟨y0,y1,y2,y3,y4,y5,y6,y7,y8,y9,y10,y11,y12,?_⟩
    simp only [p0,p1,p2,p3,p4]
theorem n27:Tryz.prog.cellsOf 27=1:=by kernel_rfl
theorem paints_in {B:Nat}{m:Ja1}{cs:List CV}(hg:Eng.Good Tryz.prog B m 27 cs):∃ r n,∃ f:Nat->Nat->Int,cs=[.sl r 0 0 n]/\n<=B/\∃ k e,m[r]?=some ⟨k,138,0,e,Jb2 n fun i=>[.int .i64 (f i 0),.int .i64 (f i 1),.int .i64 (f i 2),.int .i64 (f i 3),.int .i64 (f i 4)]⟩:=by
  obtain ⟨r,n,cells,h2,h3,h4,h5,h6⟩:=hg.row Tryz.underlying27
  rw [n138] at h3 h4
  simp only [n138] at h6
  obtain ⟨f,hf⟩:=pick (n:=n) (β:=Nat->Int) (P:=fun i g=>(cells.drop (i*5)).take 5=[.int .i64 (g 0),.int .i64 (g 1),.int .i64 (g 2),.int .i64 (g 3),.int .i64 (g 4)]) fun i hi=>by
    obtain ⟨x0,x1,x2,x3,x4,p⟩:=fl_138 (h6 i hi)
    exact ⟨fun j=>[x0,x1,x2,x3,x4].getD j 0,p⟩
  exact ⟨r,n,f,h2,h5,.ro,_,by rw [<-catC_of (w:=5) (fun _=>rfl) n cells h4 hf];exact h3⟩
theorem n141:Tryz.prog.cellsOf 141=1:=by kernel_rfl
theorem keys_in {B:Nat}{m:Ja1}{cs:List CV}(hg:Eng.Good Tryz.prog B m 141 cs):∃ r n,∃ f:Nat->Nat->Int,cs=[.sl r 0 0 n]/\n<=B/\∃ k e,m[r]?=some ⟨k,285,0,e,Jb2 n fun i=>[.int .i64 (f i 0),.int .i64 (f i 1),.int .i64 (f i 2),.int .i64 (f i 3)]⟩:=by
  obtain ⟨r,n,cells,h2,h3,h4,h5,h6⟩:=hg.row Tryz.underlying141
  rw [n285] at h3 h4
  simp only [n285] at h6
  obtain ⟨f,hf⟩:=pick (n:=n) (β:=Nat->Int) (P:=fun i g=>(cells.drop (i*4)).take 4=[.int .i64 (g 0),.int .i64 (g 1),.int .i64 (g 2),.int .i64 (g 3)]) fun i hi=>by
    obtain ⟨x0,x1,x2,x3,p⟩:=fl_285 (h6 i hi)
    exact ⟨fun j=>[x0,x1,x2,x3].getD j 0,p⟩
  exact ⟨r,n,f,h2,h5,.ro,_,by rw [<-catC_of (w:=4) (fun _=>rfl) n cells h4 hf];exact h3⟩
theorem n29:Tryz.prog.cellsOf 29=1:=by kernel_rfl
theorem joints_in {B:Nat}{m:Ja1}{cs:List CV}(hg:Eng.Good Tryz.prog B m 29 cs):∃ r n,∃ f:Nat->Nat->Int,cs=[.sl r 0 0 n]/\n<=B/\∃ k e,m[r]?=some ⟨k,146,0,e,Jb2 n fun i=>[.int .i64 (f i 0),.int .i64 (f i 1),.int .i64 (f i 2),.int .i64 (f i 3)]⟩:=by
  obtain ⟨r,n,cells,h2,h3,h4,h5,h6⟩:=hg.row Tryz.underlying29
  rw [n146] at h3 h4
  simp only [n146] at h6
  obtain ⟨f,hf⟩:=pick (n:=n) (β:=Nat->Int) (P:=fun i g=>(cells.drop (i*4)).take 4=[.int .i64 (g 0),.int .i64 (g 1),.int .i64 (g 2),.int .i64 (g 3)]) fun i hi=>by
    obtain ⟨x0,x1,x2,x3,p⟩:=fl_146 (h6 i hi)
    exact ⟨fun j=>[x0,x1,x2,x3].getD j 0,p⟩
  exact ⟨r,n,f,h2,h5,.ro,_,by rw [<-catC_of (w:=4) (fun _=>rfl) n cells h4 hf];exact h3⟩
theorem n30:Tryz.prog.cellsOf 30=1:=by kernel_rfl
theorem shapes_in {B:Nat}{m:Ja1}{cs:List CV}(hg:Eng.Good Tryz.prog B m 30 cs):∃ r n,∃ f:Nat->Nat->Int,cs=[.sl r 0 0 n]/\n<=B/\∃ k e,m[r]?=some ⟨k,150,0,e,Jb2 n fun i=>[.int .i64 (f i 0),.int .i64 (f i 1),.int .i64 (f i 2),.int .i64 (f i 3),.int .i64 (f i 4),.int .i64 (f i 5),.int .i64 (f i 6),.int .i64 (f i 7),.int .i64 (f i 8),.int .i64 (f i 9),.int .i64 (f i 10),.int .i64 (f i 11),.int .i64 (f i 12)]⟩:=by
  obtain ⟨r,n,cells,h2,h3,h4,h5,h6⟩:=hg.row Tryz.underlying30
  rw [n150] at h3 h4
  simp only [n150] at h6
  obtain ⟨f,hf⟩:=pick (n:=n) (β:=Nat->Int) (P:=fun i g=>(cells.drop (i*13)).take 13=[.int .i64 (g 0),.int .i64 (g 1),.int .i64 (g 2),.int .i64 (g 3),.int .i64 (g 4),.int .i64 (g 5),.int .i64 (g 6),.int .i64 (g 7),.int .i64 (g 8),.int .i64 (g 9),.int .i64 (g 10),.int .i64 (g 11),.int .i64 (g 12)]) fun i hi=>by
    obtain ⟨x0,x1,x2,x3,x4,x5,x6,x7,x8,x9,x10,x11,x12,p⟩:=fl_150 (h6 i hi)
    exact ⟨fun j=>[x0,x1,x2,x3,x4,x5,x6,x7,x8,x9,x10,x11,x12].getD j 0,p⟩
  exact ⟨r,n,f,h2,h5,.ro,_,by rw [<-catC_of (w:=13) (fun _=>rfl) n cells h4 hf];exact h3⟩
theorem n143:Tryz.prog.cellsOf 143=2:=by kernel_rfl
theorem n28:Tryz.prog.cellsOf 28=1:=by kernel_rfl
theorem n32:Tryz.prog.cellsOf 32=17:=by kernel_rfl
theorem track_in {B:Nat}{m:Ja1}{cs:List CV}(hg:Eng.Good Tryz.prog B m 143 cs):∃ w r n,∃ f:Nat->Nat->Int,cs=[.int .i64 w,.sl r 0 0 n]/\n<=B/\∃ k e,m[r]?=some ⟨k,285,0,e,Jb2 n fun i=>[.int .i64 (f i 0),.int .i64 (f i 1),.int .i64 (f i 2),.int .i64 (f i 3)]⟩:=by
  obtain ⟨h1,h2⟩:=hg.struct Tryz.underlying143
  rw [n143] at h1
  match cs,h1 with
  | [c0,c1],_ =>
    have f0:=h2 _ (.head _)
    have f1:=h2 _ (.tail _ (.head _))
    try dsimp only at f0 f1
    simp only [n3,n141,Nat.reduceAdd,Nat.reduceMul,Nat.zero_add,Nat.zero_mul,Nat.one_mul,List.drop_zero,List.drop_succ_cons,List.take_succ_cons,List.take_zero,List.drop_nil,List.take_nil] at f0 f1
    obtain ⟨w,p0⟩:=fl_3 f0
    obtain ⟨r,n,f,p1,hn,hm⟩:=keys_in f1
    simp only [List.cons.injEq,and_true] at p0 p1
    exact ⟨w,r,n,f,by simp only [p0,p1],hn,hm⟩
structure TKI where
  (w:Int) (r n:Nat) (f:Nat->Nat->Int)
instance:Inhabited TKI:=⟨⟨0,0,0,fun _ _=>0⟩⟩
theorem tracks_in {B:Nat}{m:Ja1}{cs:List CV}(hg:Eng.Good Tryz.prog B m 28 cs):∃ r n,∃ F:Nat->TKI,cs=[.sl r 0 0 n]/\n<=B/\(∃ k e,m[r]?=some ⟨k,143,0,e,Jb2 n fun i=>[.int .i64 (F i).w,.sl (F i).r 0 0 (F i).n]⟩) /\
    ∀ i,i<n->(F i).n<=B/\∃ k e,m[(F i).r]?=some ⟨k,285,0,e,Jb2 (F i).n fun j=>[.int .i64 ((F i).f j 0),.int .i64 ((F i).f j 1),.int .i64 ((F i).f j 2),.int .i64 ((F i).f j 3)]⟩:=by
  obtain ⟨r,n,cells,h2,h3,h4,h5,h6⟩:=hg.row Tryz.underlying28
  rw [n143] at h3 h4
  simp only [n143] at h6
  obtain ⟨F,hF⟩:=pick (n:=n) (β:=TKI) (P:=fun i t=>(cells.drop (i*2)).take 2=[.int .i64 t.w,.sl t.r 0 0 t.n]/\t.n<=B/\∃ k e,m[t.r]?=some ⟨k,285,0,e,Jb2 t.n fun j=>[.int .i64 (t.f j 0),.int .i64 (t.f j 1),.int .i64 (t.f j 2),.int .i64 (t.f j 3)]⟩) fun i hi=>by
    obtain ⟨w,r,n,f,p,hn,hm⟩:=track_in (h6 i hi)
    exact ⟨⟨w,r,n,f⟩,p,hn,hm⟩
  exact ⟨r,n,F,h2,h5,⟨.ro,_,by rw [<-catC_of (w:=2) (fun _=>rfl) n cells h4 fun i hi=>(hF i hi).1];exact h3⟩,fun i hi=>(hF i hi).2⟩
instance:Inhabited (SC × RWs):=⟨⟨0,0,0,0,0,0,0,fun _=>0,0,0,0,0,0,0,0,fun _=>0,fun _ _=>0,fun _=>0,fun _=>0,fun _=>0,fun _ _=>0,fun _ _ _=>0,fun _=>0,fun _=>0,fun _=>0,fun _=>0,fun _=>0,fun _=>0,fun _=>0,fun _ _ _=>0,fun _=>0⟩,⟨0,0,0,0,0,0,0,0,fun _=>0,fun _=>0⟩⟩
theorem scene_in {B:Nat}{m:Ja1}{cs:List CV}(hB:B<=1000000000000)(hg:Eng.Good Tryz.prog B m 32 cs):∃ q:SC × RWs,cs=scC q.1 q.2/\ScR 138 143 285 146 150 m q.1 q.2/\(0<=q.1.sd/\q.1.sd<=18446744073709551615):=by
  obtain ⟨h1,h2⟩:=hg.struct Tryz.underlying32
  rw [n32] at h1
  match cs,h1 with
  | [c0,c1,c2,c3,c4,c5,c6,c7,c8,c9,c10,c11,c12,c13,c14,c15,c16],_ =>
    have f0:=h2 _ (.head _)
    try dsimp only at f0
    simp only [n26,Nat.reduceAdd,Nat.reduceMul,Nat.zero_add,Nat.zero_mul,Nat.one_mul,List.drop_zero,List.drop_succ_cons,List.take_succ_cons,List.take_zero,List.drop_nil,List.take_nil] at f0
    have f1:=h2 _ (.tail _ (.head _))
    try dsimp only at f1
    simp only [n3,Nat.reduceAdd,Nat.reduceMul,Nat.zero_add,Nat.zero_mul,Nat.one_mul,List.drop_zero,List.drop_succ_cons,List.take_succ_cons,List.take_zero,List.drop_nil,List.take_nil] at f1
    have f2:=h2 _ (.tail _ (.tail _ (.head _)))
    try dsimp only at f2
    simp only [n3,Nat.reduceAdd,Nat.reduceMul,Nat.zero_add,Nat.zero_mul,Nat.one_mul,List.drop_zero,List.drop_succ_cons,List.take_succ_cons,List.take_zero,List.drop_nil,List.take_nil] at f2
    have f3:=h2 _ (.tail _ (.tail _ (.tail _ (.head _))))
    try dsimp only at f3
    simp only [n2,Nat.reduceAdd,Nat.reduceMul,Nat.zero_add,Nat.zero_mul,Nat.one_mul,List.drop_zero,List.drop_succ_cons,List.take_succ_cons,List.take_zero,List.drop_nil,List.take_nil] at f3
    have f4:=h2 _ (.tail _ (.tail _ (.tail _ (.tail _ (.head _)))))
    try dsimp only at f4
    simp only [n27,Nat.reduceAdd,Nat.reduceMul,Nat.zero_add,Nat.zero_mul,Nat.one_mul,List.drop_zero,List.drop_succ_cons,List.take_succ_cons,List.take_zero,List.drop_nil,List.take_nil] at f4
    have f5:=h2 _ (.tail _ (.tail _ (.tail _ (.tail _ (.tail _ (.head _))))))
    try dsimp only at f5
    simp only [n28,Nat.reduceAdd,Nat.reduceMul,Nat.zero_add,Nat.zero_mul,Nat.one_mul,List.drop_zero,List.drop_succ_cons,List.take_succ_cons,List.take_zero,List.drop_nil,List.take_nil] at f5
    have f6:=h2 _ (.tail _ (.tail _ (.tail _ (.tail _ (.tail _ (.tail _ (.head _)))))))
    try dsimp only at f6
    simp only [n29,Nat.reduceAdd,Nat.reduceMul,Nat.zero_add,Nat.zero_mul,Nat.one_mul,List.drop_zero,List.drop_succ_cons,List.take_succ_cons,List.take_zero,List.drop_nil,List.take_nil] at f6
    have f7:=h2 _ (.tail _ (.tail _ (.tail _ (.tail _ (.tail _ (.tail _ (.tail _ (.head _))))))))
    try dsimp only at f7
    simp only [n30,Nat.reduceAdd,Nat.reduceMul,Nat.zero_add,Nat.zero_mul,Nat.one_mul,List.drop_zero,List.drop_succ_cons,List.take_succ_cons,List.take_zero,List.drop_nil,List.take_nil] at f7
    obtain ⟨w,h,sm,dp,fr,sh,sd,k0,k1,k2,p0,bs⟩:=fl_26 f0
    obtain ⟨ey,p1⟩:=fl_3 f1
    obtain ⟨lk,p2⟩:=fl_3 f2
    obtain ⟨wd,p3⟩:=fl_2 f3
    obtain ⟨rp,np,fp,p4,np9,mp⟩:=paints_in f4
    obtain ⟨rt,nt,ft,p5,nt9,mt,mk⟩:=tracks_in f5
    obtain ⟨rj,nj,fj,p6,nj9,mj⟩:=joints_in f6
    obtain ⟨rx,nx,fx,p7,nx9,mx⟩:=shapes_in f7
    simp only [List.cons.injEq,and_true] at p0 p1 p2 p3 p4 p5 p6 p7
    refine ⟨(⟨w,h,sm,dp,fr,sh,sd,fun j=>[k0,k1,k2].getD j 0,ey,lk,wd,np,nt,nj,nx,fun i=>fp i 0,fun i a=>fp i (a+1),fun i=>fp i 4,fun i=>(ft i).w,fun i=>(ft i).n,fun i j=>(ft i).f j 0,fun i j a=>(ft i).f j (a+1),fun i=>fj i 0,fun i=>fj i 1,fun i=>fj i 2,fun i=>fj i 3,fun i=>fx i 0,fun i=>fx i 1,fun i=>fx i 2,fun i q a=>fx i (3+3*q+a),fun i=>fx i 12⟩,⟨rp,0,rt,0,rj,0,rx,0,fun i=>(ft i).r,fun _=>0⟩),?_,⟨mp,mt,fun i hi=>(mk i hi).2,mj,mx,by show np<=_;omega,by show nt<=_;omega,by show nj<=_;omega,by show nx<=_;omega,fun i hi=>by have:=(mk i hi).1;show (ft i).n<=_;omega⟩,bs⟩
    simp only [p0,p1,p2,p3,p4,p5,p6,p7]
    rfl
namespace filmRendersLaw
theorem law (m:Ja1)(avs:List AV)(h:All2 (fun t a=>goodA Tryz.prog 1048576 m t a) Tryz.f7.params.toList avs):Ctr Tryz.prog 7 avs m (.one (.bool true)) m:=by
  rw [Tryz.params7] at h
  obtain ⟨a0,l0,rfl,g0,h⟩:=Qd9 h
  obtain ⟨a1,l1,rfl,g1,h⟩:=Qd9 h
  obtain rfl:=Vw7 h
  obtain ⟨cs,rfl,hg⟩:=g0.agg (Or.inl ⟨_,Tryz.underlying32⟩)
  obtain ⟨⟨s,R⟩,rfl,hR,hsd⟩:=scene_in (by decide) hg
  dsimp only at hR hsd
  obtain ⟨c1,rfl,hg1⟩:=g1.one (fun fs h=>by rw [Tryz.underlying3] at h;cases h) (fun k e h=>by rw [Tryz.underlying3] at h;cases h)
  obtain ⟨fm,hb1,hr1⟩:=hg1.int Tryz.underlying3
  simp only [List.cons.injEq,and_true] at hb1
  subst hb1
  exact Kw8 s R fm m hR
theorem contract (H:Type)(enc:TypeId × Value->H)(W:World)(base:Nat)(args:Array Value)(ds gs:List (DataW H))(before:List MemPlace)
    (hval:∀ (j:Nat) t v,Tryz.f7.params[j]?=some t->args[j]?=some v->Value.okWide Tryz.prog W .any base t v)
    (hW:DataW.Whole enc Tryz.prog Tryz.f7.params.toList Rows.filmRendersSpec.vars false W args.toList ds gs before) (hk:Rows.uptoSmall H (ds++gs)=true) :
    Calls Tryz.prog 7 args W fun e W'=>∃ v,e=.returned v/\Rows.filmRendersSpec.post enc Tryz.prog Tryz.f7 false true false false W args v W':=by
  refine Vs4 (B:=1048576) (bulk:=Rows.uptoBulk) rfl ?_ laidOut laid (by kernel_rfl) (tb:=4) rfl Tryz.underlying4 isBulk (fun d hd=>small hk d (List.mem_append_left _ hd)) hval hW fun m avs _ h=>law m avs h
  obtain ⟨p,q,hA,_⟩:=hW
  rw [Tryz.params7] at hA
  rintro l rfl
  obtain ⟨v0,vs0,d0,ds0,p0,q0,_,rfl,_,_,r0⟩:=ChangeShapes.trodAll_cons hA
  obtain ⟨v1,vs1,d1,ds1,p1,q1,_,rfl,_,_,r1⟩:=ChangeShapes.trodAll_cons r0
  obtain ⟨_,rfl,_⟩:=ChangeShapes.trodAll_nil r1
  rfl
theorem j0:(Rows.filmRendersUptoRow.wf (OpenSpec.ofChange (Rows.OpenSpec.upto Rows.filmRendersSpec).bare))=true:=by kernel_rfl
theorem j1:(laidOutB Tryz.prog)=true:=by kernel_rfl
theorem j2:(mapsRowed Tryz.prog)=true:=by kernel_rfl
theorem j3:(Tryz.f7.params.all (Tryz.prog.readableRec ·))=true:=by kernel_rfl
theorem j4:(namedTie Tryz.prog Rows.filmRendersUptoRow.named (Rows.OpenSpec.upto Rows.filmRendersSpec).bare.vars)=true:=by kernel_rfl
theorem j5:((Rows.filmRendersUptoRow.stops ==[]))=true:=by kernel_rfl
theorem j6:((Tryz.prog.stops ==[]))=true:=by kernel_rfl
theorem j7:((Rows.filmRendersUptoRow.knobs ==[]))=true:=by kernel_rfl
theorem j8:((Tryz.prog.stopKnobs ==[]))=true:=by kernel_rfl
theorem j9:((Rows.filmRendersUptoRow.inPlace ==Tryz.prog.inPlace 7))=true:=by kernel_rfl
theorem j10:((Rows.filmRendersUptoRow.unfollowed ==Tryz.prog.unfollowed 7))=true:=by kernel_rfl
theorem j11:((Rows.filmRendersUptoRow.recurses ==Tryz.prog.recurses 7))=true:=by kernel_rfl
theorem j12:((Rows.filmRendersUptoRow.named ==Tryz.prog.varsNamed 7))=true:=by kernel_rfl
theorem j13:((Rows.filmRendersUptoRow.maps ==(Tryz.f7.params.toList++(Rows.OpenSpec.upto Rows.filmRendersSpec).bare.plain.varTypes Tryz.prog).any (Tryz.prog.mapsRec ·)))=true:=by kernel_rfl
theorem j14:((Rows.filmRendersUptoRow.ifaces ==(Tryz.f7.params.toList++(Rows.OpenSpec.upto Rows.filmRendersSpec).bare.plain.varTypes Tryz.prog).any (Tryz.prog.ifacesRec ·)))=true:=by kernel_rfl
theorem j15:((Rows.filmRendersUptoRow.mapsOut ==Tryz.prog.mapsAmong Tryz.f7.resultTypes.toList))=true:=by kernel_rfl
theorem j16:((Rows.filmRendersUptoRow.loops ==(Tryz.f7.params.toList++(Rows.OpenSpec.upto Rows.filmRendersSpec).bare.plain.varTypes Tryz.prog).any (Tryz.prog.loopsFrom ·)))=true:=by kernel_rfl
theorem j17:((Rows.filmRendersUptoRow.wideKeys ==(Tryz.f7.params.toList++(Rows.OpenSpec.upto Rows.filmRendersSpec).bare.plain.varTypes Tryz.prog++Tryz.f7.resultTypes.toList).any (Tryz.prog.wideKeysFrom ·)))=true:=by kernel_rfl
theorem j18:((Rows.OpenSpec.upto Rows.filmRendersSpec).bare.vars.all (Tryz.prog.varReadable ·))=true:=by kernel_rfl
theorem j19:(Tryz.f7.resultTypes.all (fun t=>Tryz.prog.readableRec t&&decide (t<Tryz.prog.types.size)))=true:=by kernel_rfl
theorem j20:((Rows.filmRendersUptoRow.ifacesOut ==Tryz.f7.resultTypes.toList.any (Tryz.prog.ifacesRec ·)))=true:=by kernel_rfl
theorem j21:((Rows.filmRendersUptoRow.loopsOut ==Tryz.f7.resultTypes.toList.any (Tryz.prog.loopsFrom ·)))=true:=by kernel_rfl
theorem j22:((Rows.filmRendersUptoRow.plainKeys ==Tryz.prog.plainKeys))=true:=by kernel_rfl
theorem j23:(Rows.filmRendersUptoRow.shortTexts.isNone)=true:=by kernel_rfl
theorem j24:(Tryz.prog.stopsHeard)=true:=by kernel_rfl
theorem j25:(Tryz.prog.mayEnter)=true:=by kernel_rfl
theorem j26:((Rows.filmRendersUptoRow.lifted ==Tryz.prog.liftsFinal))=true:=by kernel_rfl
theorem j27:((Tryz.prog.make ==some Rows.filmRendersUptoRow.make))=true:=by kernel_rfl
theorem j28:((Rows.filmRendersUptoRow.kinds ==(if Rows.filmRendersUptoRow.domain.isEmpty then [] else Tryz.f7.params.toList.map fun t=>match Tryz.prog.underlying t with|some (.int k)=>some k|_=>none)))=true:=by kernel_rfl
theorem j29:((Rows.filmRendersUptoRow.pinned ==Rows.filmRendersUptoRow.pinnedBy))=true:=by kernel_rfl
theorem j30:((Rows.filmRendersUptoRow.veiled ==(Tryz.f7.params.toList++(Rows.OpenSpec.upto Rows.filmRendersSpec).bare.plain.varTypes Tryz.prog++Tryz.f7.resultTypes.toList).any (Tryz.prog.veiledRec ·)))=true:=by kernel_rfl
theorem j31:(Rows.filmRendersUptoRow.veiledFits Tryz.prog Tryz.f7.params.toList (Tryz.f7.params.toList++(Rows.OpenSpec.upto Rows.filmRendersSpec).bare.plain.varTypes Tryz.prog++Tryz.f7.resultTypes.toList))=true:=by kernel_rfl
theorem jf:joinedFacts Tryz.prog 7 Tryz.f7 (Rows.OpenSpec.upto Rows.filmRendersSpec).bare Rows.filmRendersUptoRow=true:=by
  unfold joinedFacts
  simp only [Bool.and_eq_true]
  exact ⟨⟨⟨⟨⟨⟨⟨⟨⟨⟨⟨⟨⟨⟨⟨⟨⟨⟨⟨⟨⟨⟨⟨⟨⟨⟨⟨⟨⟨⟨⟨j0,j1⟩,j2⟩,j3⟩,j4⟩,j5⟩,j6⟩,j7⟩,j8⟩,j9⟩,j10⟩,j11⟩,j12⟩,j13⟩,j14⟩,j15⟩,j16⟩,j17⟩,j18⟩,j19⟩,j20⟩,j21⟩,j22⟩,j23⟩,j24⟩,j25⟩,j26⟩,j27⟩,j28⟩,j29⟩,j30⟩,j31⟩
theorem jn:Tryz.prog.funcNamed Rows.filmRendersUptoRow.func=some 7:=by kernel_rfl
theorem ji:Tryz.f7.isInstance Tryz.prog Rows.filmRendersUptoRow.origin Rows.filmRendersUptoRow.targs:=of_decide_eq_true (by kernel_rfl)
theorem jw:Tryz.f7.isWrapper Tryz.prog Rows.filmRendersUptoRow.wrapper Rows.filmRendersUptoRow.mainSum:=(by unfold Func.isWrapper;first|(rw [if_pos (by decide +kernel)];kernel_rfl)|(rw [if_neg (by decide +kernel)];exact ⟨rfl,rfl⟩))
theorem lifted (os:Os)(started:os.Started)(H:Type)(enc:TypeId × Value->H)(X:Stop.Interp) :
    ReturnsInHanded {} Tryz.checked os 7 .any ((Rows.OpenSpec.upto Rows.filmRendersSpec).pre6 enc Tryz.prog Tryz.f7 Rows.filmRendersUptoRow.domain false) (((Rows.OpenSpec.upto Rows.filmRendersSpec).at X).post enc Tryz.prog Tryz.f7 false true false false):=by
  refine returnsInHanded_of_cond (C:=Tryz.checked) (s:=Rows.OpenSpec.upto Rows.filmRendersSpec) (k:=Rows.uptoSmall) rfl own started (by kernel_rfl) Tryz.func7
    (OpenSpec.witness (enc:=enc) (C:=Tryz.checked) (s:=Rows.OpenSpec.upto Rows.filmRendersSpec) (k:=Rows.uptoSmall) rfl false ⟨#[],#[.agg #[.int .i64 0,.int .i64 0,.int .i64 0,.int .i64 0,.int .i64 0,.int .i64 0,.int .u64 0,.int .i64 0,.int .i64 0,.int .i64 0,.int .i64 0,.int .i64 0,.int .i64 0,.slice none 0 0,.slice none 0 0,.slice none 0 0,.slice none 0 0],.int .i64 0],[]⟩ 8 (by kernel_rfl) (by kernel_rfl) (by kernel_rfl)
      (x:=([.agg [.agg [.lit (.int .i64 0),.lit (.int .i64 0),.lit (.int .i64 0),.lit (.int .i64 0),.lit (.int .i64 0),.lit (.int .i64 0),.lit (.int .u64 0),.agg [.lit (.int .i64 0),.lit (.int .i64 0),.lit (.int .i64 0)]],.lit (.int .i64 0),.lit (.int .i64 0),.lit (.int .i64 0),.nil,.nil,.nil,.nil],.lit (.int .i64 0)],[],[])) (by kernel_rfl) rfl (by kernel_rfl)) ?_
  intro W base args ds gs before hval hW _ hk _
  exact contract H enc W base args ds gs before hval hW hk
theorem proved:Rows.FilmRendersUptoSaid :=
  OpenClaim.holds_of_cond 7 Tryz.f7 rfl rfl rfl rfl rfl rfl rfl ⟨rfl,rfl,rfl,rfl,rfl⟩ rfl rfl rfl rfl rfl jn Tryz.func7 jf
    ji jw
    (fun os started H enc _ X=>lifted os started H enc X)
end filmRendersLaw
end Go.Proofs.YtaannomfigammaaGreat
