/-
  ENGINE, PART L: the same in the forms in which a walk is reckoned step by step.
-/
import Derived.Test.YtmjbbnfmhgcfaaaEngK
set_option linter.unusedVariables false
set_option linter.unusedSimpArgs false
namespace Go.Eng
open Go

theorem eqV_s {P : Program} {d : Nat} {t : TypeId} {x y : AV} : eqV P (d + 1) t x y = match P.underlying t, x, y with
    | some .bool, .one (.bool a), .one (.bool b) => some (a == b)
    | some (.int _), .one (.int k a), .one (.int k' b) => if k = k' then some (a == b) else none
    | some .string, .one (.str a), .one (.str b) => some (a.toList == b.toList)
    | some (.struct fs), .agg xs, .agg ys =>
      if P.stoodInHeld t = false ∧ (fs.toList.all fun f => f.name != "_") = true then eqParts P (eqV P d) xs ys (fs.toList.map fun f => (f.type, f.offset)) else none
    | some (.array n e), .agg xs, .agg ys => match szOf P e with
      | some k => eqParts P (eqV P d) xs ys ((List.range' 0 n).map fun i => (e, i * k))
      | none => none
    | _, _, _ => none := by rfl
theorem chain2 (p1 p2 : Prop) : (p1 ∧ p2) ∨ (p1 ∧ ¬p2) ∨ (¬p1 ∧ True) := by
  rcases Classical.em p1 with h | h <;> rcases Classical.em p2 with h' | h' <;> simp [h, h']
theorem chain3 (p1 p2 p3 : Prop) : (p1 ∧ p2 ∧ p3) ∨ (p1 ∧ p2 ∧ ¬p3) ∨ (p1 ∧ ¬p2 ∧ True) ∨ (¬p1 ∧ True ∧ True) := by
  rcases Classical.em p1 with h | h <;> rcases Classical.em p2 with h' | h' <;> rcases Classical.em p3 with h'' | h'' <;> simp [h, h', h'']
theorem chain4 (p1 p2 p3 p4 : Prop) : (p1 ∧ p2 ∧ p3 ∧ p4) ∨ (p1 ∧ p2 ∧ p3 ∧ ¬p4) ∨ (p1 ∧ p2 ∧ ¬p3 ∧ True) ∨ (p1 ∧ ¬p2 ∧ True ∧ True) ∨ (¬p1 ∧ True ∧ True ∧ True) := by
  rcases Classical.em p1 with h | h <;> rcases chain3 p2 p3 p4 with h' | h' | h' | h' <;> simp [h, h']
theorem chain5 (p1 p2 p3 p4 p5 : Prop) : (p1 ∧ p2 ∧ p3 ∧ p4 ∧ p5) ∨ (p1 ∧ p2 ∧ p3 ∧ p4 ∧ ¬p5) ∨ (p1 ∧ p2 ∧ p3 ∧ ¬p4 ∧ True) ∨ (p1 ∧ p2 ∧ ¬p3 ∧ True ∧ True) ∨ (p1 ∧ ¬p2 ∧ True ∧ True ∧ True) ∨ (¬p1 ∧ True ∧ True ∧ True ∧ True) := by
  rcases Classical.em p1 with h | h <;> rcases chain4 p2 p3 p4 p5 with h' | h' | h' | h' | h' <;> simp [h, h']

section
variable {P : Program}

def VThen (P : Program) (ops : Array Oper) (rest : List Oper) (d : Option Tmp) (tm : Tm) (K : Tm → AMem → Prop) (r : Option (AV × AMem)) : Prop :=
  match r with
  | some (x, mem') => AOps P ops rest (putO d x tm) mem' K
  | none => False
def SThen (P : Program) (ops : Array Oper) (rest : List Oper) (d : Option Tmp) (tm : Tm) (K : Tm → AMem → Prop) (r : Option AMem) : Prop :=
  match r with
  | some mem' => AOps P ops rest (putO d (.one .und) tm) mem' K
  | none => False
def CThen (P : Program) (ops : Array Oper) (rest : List Oper) (d : Option Tmp) (tm : Tm) (K : Tm → AMem → Prop) (g : FuncId) (args : List AV) (mem : AMem) : Prop :=
  ∃ ret mem', Ctr P g args mem ret mem' ∧ AOps P ops rest (putO d ret tm) mem' K
def FThen (P : Program) (ops : Array Oper) (rest : List Oper) (d : Option Tmp) (tm : Tm) (K : Tm → AMem → Prop) (f : AV) (args : List AV) (mem : AMem) : Prop :=
  match f with
  | .one (.fn g cs) => CThen P ops rest d tm K g (args ++ capsAV cs) mem
  | _ => False
def GThen (P : Program) (ops : Array Oper) (rest : List Oper) (o : Oper) (tm : Tm) (mem : AMem) (K : Tm → AMem → Prop) (g : Option Bool) : Prop :=
  match g with
  | some true => AOps P ops ({ o with guard := none } :: rest) tm mem K
  | some false => AOps P ops rest (putO o.dst (.one .und) tm) mem K
  | none => False
def OThen (P : Program) (ops : Array Oper) (rest : List Oper) (d : Option Tmp) (tm : Tm) (mem : AMem) (K : Tm → AMem → Prop) (op : Op) : Prop :=
  match op with
  | .store t x y => SThen P ops rest d tm K (storeA P t (opd tm x) (opd tm y) mem)
  | .call ⟨.value f, args, _⟩ => FThen P ops rest d tm K (opd tm f) (args.toList.map (opd tm)) mem
  | op => VThen P ops rest d tm K (evVal P (opd tm) mem op)

theorem AOps_nil {ops : Array Oper} {tm : Tm} {mem : AMem} {K : Tm → AMem → Prop} : AOps P ops [] tm mem K = K tm mem := rfl
theorem AOps_run {ops : Array Oper} {rest : List Oper} {d : Option Tmp} {op : Op} {t : TypeId} {pos : String} {af : Array Edge} {tm : Tm} {mem : AMem} {K : Tm → AMem → Prop} :
    AOps P ops (⟨d, op, t, pos, af, none⟩ :: rest) tm mem K = OThen P ops rest d tm mem K op := by
  simp only [AOps, wantedA, OThen]
  split
  · simp only [SThen]; rfl
  · simp only [FThen, CThen]; rfl
  · simp only [VThen]; split <;> simp_all
theorem AOps_grd {ops : Array Oper} {rest : List Oper} {d : Option Tmp} {op : Op} {t : TypeId} {pos : String} {af : Array Edge} {g : Nat × Bool} {tm : Tm} {mem : AMem} {K : Tm → AMem → Prop} :
    AOps P ops (⟨d, op, t, pos, af, some g⟩ :: rest) tm mem K = GThen P ops rest ⟨d, op, t, pos, af, some g⟩ tm mem K (wantedA ops ⟨d, op, t, pos, af, some g⟩ tm) := by
  simp only [GThen]
  generalize hw : wantedA ops ⟨d, op, t, pos, af, some g⟩ tm = w
  rw [AOps]
  rw [hw]
  cases w with
  | none => rfl
  | some b => cases b <;> rfl
theorem VThen_some {ops : Array Oper} {rest : List Oper} {d : Option Tmp} {tm : Tm} {K : Tm → AMem → Prop} {x : AV} {mem' : AMem} : VThen P ops rest d tm K (some (x, mem')) = AOps P ops rest (putO d x tm) mem' K := rfl
theorem SThen_some {ops : Array Oper} {rest : List Oper} {d : Option Tmp} {tm : Tm} {K : Tm → AMem → Prop} {mem' : AMem} : SThen P ops rest d tm K (some mem') = AOps P ops rest (putO d (.one .und) tm) mem' K := rfl
theorem FThen_fn {ops : Array Oper} {rest : List Oper} {d : Option Tmp} {tm : Tm} {K : Tm → AMem → Prop} {g : FuncId} {cs : List (Nat × Nat × Nat)} {args : List AV} {mem : AMem} :
    FThen P ops rest d tm K (.one (.fn g cs)) args mem = CThen P ops rest d tm K g (args ++ capsAV cs) mem := rfl
theorem GThen_true {ops : Array Oper} {rest : List Oper} {d : Option Tmp} {op : Op} {t : TypeId} {pos : String} {af : Array Edge} {g : Option (Nat × Bool)} {tm : Tm} {mem : AMem} {K : Tm → AMem → Prop} :
    GThen P ops rest ⟨d, op, t, pos, af, g⟩ tm mem K (some true) = OThen P ops rest d tm mem K op := AOps_run
theorem GThen_false {ops : Array Oper} {rest : List Oper} {d : Option Tmp} {op : Op} {t : TypeId} {pos : String} {af : Array Edge} {g : Option (Nat × Bool)} {tm : Tm} {mem : AMem} {K : Tm → AMem → Prop} :
    GThen P ops rest ⟨d, op, t, pos, af, g⟩ tm mem K (some false) = AOps P ops rest (putO d (.one .und) tm) mem K := rfl
theorem GThen.split {ops : Array Oper} {rest : List Oper} {o : Oper} {tm : Tm} {mem : AMem} {K : Tm → AMem → Prop} {b : Bool} (h1 : b = true → GThen P ops rest o tm mem K (some true)) (h2 : b = false → GThen P ops rest o tm mem K (some false)) :
    GThen P ops rest o tm mem K (some b) := by cases b; exact h2 rfl; exact h1 rfl
theorem CThen.by {ops : Array Oper} {rest : List Oper} {d : Option Tmp} {tm : Tm} {K : Tm → AMem → Prop} {g : FuncId} {args : List AV} {mem mem' : AMem} {ret : AV} (h : Ctr P g args mem ret mem')
    (h2 : AOps P ops rest (putO d ret tm) mem' K) : CThen P ops rest d tm K g args mem := ⟨ret, mem', h, h2⟩

/- The same for a region that draws its order. -/
def DVal (P : Program) (ops : Array Oper) (rest : Pl) (d : Option Tmp) (tm : Tm) (cur : AMem) (hist : List AMem) (ws : List (Nat × Nat)) (K : Tm → AMem → Prop) (r : Option (AV × AMem)) : Prop :=
  match r with
  | some (x, []) => AOpsD P ops rest (putO d x tm) cur hist ws K
  | _ => False
def DLoad (P : Program) (ops : Array Oper) (rest : Pl) (d : Option Tmp) (tm : Tm) (cur : AMem) (hist : List AMem) (ws : List (Nat × Nat)) (K : Tm → AMem → Prop) (r : Option AV) : Prop :=
  match r with
  | some x => AOpsD P ops rest (putO d x tm) cur hist ws K
  | none => False
def DExt (P : Program) (ops : Array Oper) (rest : Pl) (d : Option Tmp) (tm : Tm) (cur : AMem) (hist : List AMem) (ws : List (Nat × Nat)) (K : Tm → AMem → Prop) (r : Option (AV × AMem)) : Prop :=
  match r with
  | some (x, mem') => (∃ extra, mem' = cur ++ extra) ∧ AOpsD P ops rest (putO d x tm) mem' (hist ++ [mem']) ws K
  | none => False
def DWr (P : Program) (ops : Array Oper) (rest : Pl) (d : Option Tmp) (tm : Tm) (hist : List AMem) (ws : List (Nat × Nat)) (K : Tm → AMem → Prop) (r : Option (AV × AMem)) : Prop :=
  match r with
  | some (x, mem') => AOpsD P ops rest (putO d x tm) mem' (hist ++ [mem']) ws K
  | none => False
def DUp (P : Program) (ops : Array Oper) (rest : Pl) (d : Option Tmp) (tm : Tm) (cur : AMem) (hist : List AMem) (ws : List (Nat × Nat)) (K : Tm → AMem → Prop) (A : Option AMem) (r : Option (AV × AMem)) : Prop :=
  match r with
  | some (x, mem') => (∃ B x0 y0, A = some B ∧ cur = B ++ x0 ∧ mem' = B ++ y0) ∧ AOpsD P ops rest (putO d x tm) mem' (hist ++ [mem']) ws K
  | none => False
def DCall (P : Program) (ops : Array Oper) (rest : Pl) (d : Option Tmp) (tm : Tm) (cur : AMem) (hist : List AMem) (ws : List (Nat × Nat)) (K : Tm → AMem → Prop) (g : FuncId) (args : List AV) : Prop :=
  ∃ ret extra, Ctr P g args cur ret (cur ++ extra) ∧ AOpsD P ops rest (putO d ret tm) (cur ++ extra) (hist ++ [cur ++ extra]) ws K
def DCallW (P : Program) (ops : Array Oper) (rest : Pl) (d : Option Tmp) (tm : Tm) (cur : AMem) (hist : List AMem) (ws : List (Nat × Nat)) (K : Tm → AMem → Prop) (g : FuncId) (args : List AV) : Prop :=
  ∃ ret mem', Ctr P g args cur ret mem' ∧ AOpsD P ops rest (putO d ret tm) mem' (hist ++ [mem']) ws K
def DFn (P : Program) (ops : Array Oper) (rest : Pl) (d : Option Tmp) (tm : Tm) (cur : AMem) (hist : List AMem) (ws : List (Nat × Nat)) (K : Tm → AMem → Prop) (w : Bool) (f : AV) (args : List AV) : Prop :=
  match f with
  | .one (.fn g cs) => if w then DCallW P ops rest d tm cur hist ws K g (args ++ capsAV cs) else DCall P ops rest d tm cur hist ws K g (args ++ capsAV cs)
  | _ => False
def DFl (P : Program) (ops : Array Oper) (rest : Pl) (d : Option Tmp) (tm : Tm) (cur : AMem) (hist : List AMem) (ws : List (Nat × Nat)) (K : Tm → AMem → Prop) (t : TypeId) (r : Option Value) : Prop :=
  match r with
  | some z => AOpsD P ops rest (putO d (.one (.ptr cur.length 0 0)) tm) (cur ++ [⟨.fix, t, 0, 0, z.cells.toList.map cellOf⟩]) (hist ++ [cur ++ [⟨.fix, t, 0, 0, z.cells.toList.map cellOf⟩]]) ws K
  | none => False
def DLoadW (P : Program) (ops : Array Oper) (rest : Pl) (d : Option Tmp) (tm : Tm) (cur : AMem) (hist : List AMem) (ws : List (Nat × Nat)) (K : Tm → AMem → Prop) (lo : Nat) (a : AV) (r : Option AV) : Prop :=
  match a, r with
  | .one (.ptr k _ _), some x => AOpsD P ops rest (putO d x tm) cur hist ((lo, k) :: ws) K
  | _, _ => False
def DOp (P : Program) (ops : Array Oper) (rest : Pl) (d : Option Tmp) (tm : Tm) (cur : AMem) (hist : List AMem) (ws : List (Nat × Nat)) (K : Tm → AMem → Prop) (op : Op) (g : Option (Nat × Bool)) (p : Plan) : Prop :=
  match p with
  | .val => DVal P ops rest d tm cur hist ws K (evVal P (opd tm) [] op)
  | .rd lo => match op with
    | .load t y => DLoad P ops rest d tm cur hist ws K ((hist[lo]?).bind fun M => loadA P t (opd tm y) M)
    | _ => False
  | .rw lo => match op with
    | .load t y => DLoadW P ops rest d tm cur hist ws K lo (opd tm y) ((hist[lo]?).bind fun M => loadA P t (opd tm y) M)
    | _ => False
  | .ext => match op with
    | .store _ _ _ => False
    | .call ⟨.value f, args, _⟩ => DFn P ops rest d tm cur hist ws K false (opd tm f) (args.toList.map (opd tm))
    | op => DExt P ops rest d tm cur hist ws K (evVal P (opd tm) cur op)
  | .up q => DUp P ops rest d tm cur hist ws K (hist[q]?) (evVal P (opd tm) cur op)
  | .fl => match op, g with
    | .alloc t, none => DFl P ops rest d tm cur hist ws K t (zeroOf P t)
    | _, _ => False
  | .wr => match op with
    | .store t x y => DWr P ops rest d tm hist ws K ((storeA P t (opd tm x) (opd tm y) cur).map fun m => (.one .und, m))
    | .call ⟨.value f, args, _⟩ => DFn P ops rest d tm cur hist ws K true (opd tm f) (args.toList.map (opd tm))
    | op => DWr P ops rest d tm hist ws K (evVal P (opd tm) cur op)
def DGrd (P : Program) (ops : Array Oper) (rest : Pl) (d : Option Tmp) (tm : Tm) (cur : AMem) (hist : List AMem) (ws : List (Nat × Nat)) (K : Tm → AMem → Prop) (op : Op) (og : Option (Nat × Bool)) (p : Plan) (g : Option Bool) : Prop :=
  match g with
  | some true => DOp P ops rest d tm cur hist ws K op og p
  | some false => AOpsD P ops rest (putO d (.one .und) tm) cur (if p.chain then hist ++ [cur] else hist) ws K
  | none => False

section
variable {ops : Array Oper} {rest : Pl} {d : Option Tmp} {op : Op} {t : TypeId} {pos : String} {af : Array Edge} {tm : Tm} {cur : AMem} {hist : List AMem} {ws : List (Nat × Nat)} {K : Tm → AMem → Prop} {p : Plan} {og : Option (Nat × Bool)}
theorem watched_nil {Ms : List AMem} : Watched Ms [] := fun p hp => by cases hp
theorem AOpsD_nil : AOpsD P ops [] tm cur hist [] K = K tm cur := by simp only [AOpsD, eq_iff_iff, and_iff_right_iff_imp]; exact fun _ => watched_nil
def allAt (r : Nat) (b : Blk) : List AMem → Prop
  | [] => True
  | M :: Ms => M[r]? = some b ∧ allAt r b Ms
theorem allAt_mem {r : Nat} {b : Blk} : ∀ {Ms : List AMem}, allAt r b Ms → ∀ M, M ∈ Ms → M[r]? = some b
  | M' :: Ms, h, M, hM => by
    rcases List.mem_cons.1 hM with rfl | hM
    · exact h.1
    · exact allAt_mem h.2 M hM
theorem Watched.add {Ms : List AMem} {W : List (Nat × Nat)} {lo r : Nat} {b : Blk} {Ms' : List AMem} (he : Ms.drop lo = Ms') (h : allAt r b Ms') (h2 : Watched Ms W) : Watched Ms ((lo, r) :: W) := fun p hp => by
  rcases List.mem_cons.1 hp with rfl | hp
  · exact ⟨b, fun M hM => allAt_mem (he ▸ h) M hM⟩
  · exact h2 p hp
def watchS (Ms : List AMem) : List (Nat × Nat) → Prop
  | [] => True
  | (lo, r) :: W => (match Ms.drop lo with
    | [] => True
    | M :: Ms' => match M[r]? with
      | some b => allAt r b Ms'
      | none => False) ∧ watchS Ms W
theorem watchS_ok {Ms : List AMem} : ∀ {W : List (Nat × Nat)}, watchS Ms W → Watched Ms W
  | [], _ => watched_nil
  | (lo, r) :: W, h => by
    have h1 := h.1
    generalize hd : Ms.drop lo = L at h1
    cases L with
    | nil => exact Watched.add (b := ⟨.fix, 0, 0, 0, []⟩) hd trivial (watchS_ok h.2)
    | cons M L =>
      cases hm : M[r]? with
      | none => simp only [hm] at h1
      | some b => simp only [hm] at h1; exact Watched.add (b := b) hd ⟨hm, h1⟩ (watchS_ok h.2)
theorem AOpsD_end (h : watchS hist ws) (hk : K tm cur) : AOpsD P ops [] tm cur hist ws K := ⟨watchS_ok h, hk⟩
theorem AOpsD_gen {o : Oper} : AOpsD P ops ((o, p) :: rest) tm cur hist ws K = DGrd P ops rest o.dst tm cur hist ws K o.op o.guard p (wantedA ops o tm) := by
  obtain ⟨d, op, t, pos, af, g⟩ := o
  simp only [AOpsD, DGrd, DOp]
  generalize wantedA ops ⟨d, op, t, pos, af, g⟩ tm = w
  cases w with
  | none => rfl
  | some b =>
    cases b with
    | false => rfl
    | true =>
      simp only
      cases p with
      | val => rfl
      | rd lo =>
        cases op
        case load t y =>
          simp only [DLoad]
          cases hist[lo]? with
          | none => rfl
          | some M => rfl
        all_goals rfl
      | rw lo =>
        cases op
        case load t y =>
          simp only [DLoadW]
          generalize opd tm y = a
          cases hist[lo]? with
          | none =>
            cases a with
            | one c => cases c <;> rfl
            | _ => rfl
          | some M =>
            cases a with
            | one c =>
              cases c
              case ptr r v o => simp only [Option.bind_some]; generalize loadA P t (.one (.ptr r v o)) M = z; cases z <;> rfl
              all_goals rfl
            | _ => rfl
        all_goals rfl
      | ext =>
        cases op
        case call c =>
          obtain ⟨cal, args, ts⟩ := c
          cases cal with
          | value f =>
            simp only [DFn, DCall]
            generalize opd tm f = fv
            cases fv with
            | one c => cases c <;> rfl
            | _ => rfl
          | _ => rfl
        all_goals rfl
      | up q => rfl
      | fl =>
        cases op
        case alloc t =>
          cases g with
          | none => simp only [DFl]; generalize zeroOf P t = z; cases z <;> rfl
          | some g => rfl
        all_goals rfl
      | wr =>
        cases op
        case store t x y =>
          simp only [DWr]
          generalize storeA P t (opd tm x) (opd tm y) cur = s
          cases s <;> rfl
        case call c =>
          obtain ⟨cal, args, ts⟩ := c
          cases cal with
          | value f =>
            simp only [DFn, DCallW]
            generalize opd tm f = fv
            cases fv with
            | one c => cases c <;> rfl
            | _ => rfl
          | _ => rfl
        all_goals rfl
theorem AOpsD_run : AOpsD P ops ((⟨d, op, t, pos, af, none⟩, p) :: rest) tm cur hist ws K = DOp P ops rest d tm cur hist ws K op none p := by
  rw [AOpsD_gen]; rfl
theorem AOpsD_grd {g : Nat × Bool} : AOpsD P ops ((⟨d, op, t, pos, af, some g⟩, p) :: rest) tm cur hist ws K = DGrd P ops rest d tm cur hist ws K op (some g) p (wantedA ops ⟨d, op, t, pos, af, some g⟩ tm) := AOpsD_gen
theorem DGrd_true : DGrd P ops rest d tm cur hist ws K op og p (some true) = DOp P ops rest d tm cur hist ws K op og p := rfl
theorem DGrd_false : DGrd P ops rest d tm cur hist ws K op og p (some false) = AOpsD P ops rest (putO d (.one .und) tm) cur (if p.chain then hist ++ [cur] else hist) ws K := rfl
theorem DFl_some {z : Value} : DFl P ops rest d tm cur hist ws K t (some z) = AOpsD P ops rest (putO d (.one (.ptr cur.length 0 0)) tm) (cur ++ [⟨.fix, t, 0, 0, z.cells.toList.map cellOf⟩]) (hist ++ [cur ++ [⟨.fix, t, 0, 0, z.cells.toList.map cellOf⟩]]) ws K := rfl
theorem DGrd.split {b : Bool} (h1 : b = true → DGrd P ops rest d tm cur hist ws K op og p (some true)) (h2 : b = false → DGrd P ops rest d tm cur hist ws K op og p (some false)) : DGrd P ops rest d tm cur hist ws K op og p (some b) := by
  cases b; exact h2 rfl; exact h1 rfl
theorem DVal_some {x : AV} : DVal P ops rest d tm cur hist ws K (some (x, [])) = AOpsD P ops rest (putO d x tm) cur hist ws K := rfl
theorem DLoadW_some {x : AV} {lo r v o : Nat} : DLoadW P ops rest d tm cur hist ws K lo (.one (.ptr r v o)) (some x) = AOpsD P ops rest (putO d x tm) cur hist ((lo, r) :: ws) K := rfl
theorem DLoad_some {x : AV} : DLoad P ops rest d tm cur hist ws K (some x) = AOpsD P ops rest (putO d x tm) cur hist ws K := rfl
theorem DExt_some {x : AV} {extra : AMem} : DExt P ops rest d tm cur hist ws K (some (x, cur ++ extra)) = AOpsD P ops rest (putO d x tm) (cur ++ extra) (hist ++ [cur ++ extra]) ws K := by
  simp only [DExt, eq_iff_iff, and_iff_right_iff_imp]; intro _; exact ⟨extra, rfl⟩
theorem DExt.by {x : AV} {mem' extra : AMem} (he : mem' = cur ++ extra) (h : AOpsD P ops rest (putO d x tm) mem' (hist ++ [mem']) ws K) : DExt P ops rest d tm cur hist ws K (some (x, mem')) := ⟨⟨extra, he⟩, h⟩
theorem DExt_app {m a e : AMem} {x : AV} : DExt P ops rest d tm (m ++ a) hist ws K (some (x, m ++ (a ++ e))) = AOpsD P ops rest (putO d x tm) (m ++ (a ++ e)) (hist ++ [m ++ (a ++ e)]) ws K := by
  rw [← List.append_assoc]; exact DExt_some
theorem DUp.by {x : AV} {mem' B x0 y0 : AMem} (hc : cur = B ++ x0) (hm : mem' = B ++ y0) (h : AOpsD P ops rest (putO d x tm) mem' (hist ++ [mem']) ws K) : DUp P ops rest d tm cur hist ws K (some B) (some (x, mem')) := ⟨⟨B, x0, y0, rfl, hc, hm⟩, h⟩
theorem DWr_some {x : AV} {mem' : AMem} : DWr P ops rest d tm hist ws K (some (x, mem')) = AOpsD P ops rest (putO d x tm) mem' (hist ++ [mem']) ws K := rfl
theorem DFn_ext {g : FuncId} {cs : List (Nat × Nat × Nat)} {args : List AV} : DFn P ops rest d tm cur hist ws K false (.one (.fn g cs)) args = DCall P ops rest d tm cur hist ws K g (args ++ capsAV cs) := rfl
theorem DFn_wr {g : FuncId} {cs : List (Nat × Nat × Nat)} {args : List AV} : DFn P ops rest d tm cur hist ws K true (.one (.fn g cs)) args = DCallW P ops rest d tm cur hist ws K g (args ++ capsAV cs) := rfl
theorem DCall.by {g : FuncId} {args : List AV} {ret : AV} {extra : AMem} (h : Ctr P g args cur ret (cur ++ extra)) (h2 : AOpsD P ops rest (putO d ret tm) (cur ++ extra) (hist ++ [cur ++ extra]) ws K) : DCall P ops rest d tm cur hist ws K g args := ⟨ret, extra, h, h2⟩
theorem DCall.by0 {g : FuncId} {args : List AV} {ret : AV} (h : Ctr P g args cur ret cur) (h2 : AOpsD P ops rest (putO d ret tm) cur (hist ++ [cur]) ws K) : DCall P ops rest d tm cur hist ws K g args := ⟨ret, [], by simpa using h, by simpa using h2⟩
theorem DCallW.by {g : FuncId} {args : List AV} {ret : AV} {mem' : AMem} (h : Ctr P g args cur ret mem') (h2 : AOpsD P ops rest (putO d ret tm) mem' (hist ++ [mem']) ws K) : DCallW P ops rest d tm cur hist ws K g args := ⟨ret, mem', h, h2⟩
end

/-- What a function must come to. -/
def RetP (P : Program) (rs : List ResultVar) (L : Nat) (ret : AV) (mem' : AMem) (ex : Exit) (tm : Tm) (m : AMem) : Prop :=
  (ex = .normal ∨ ex = .ret) ∧ ∃ x, resA P rs tm m = some x ∧ Hands L x m ret mem'

variable {nt : Nat} {tm : Tm} {mem : AMem} {Q : Exit → Tm → AMem → Prop}

theorem Ctr.enter {f : FuncId} {fn : Func} {c : Code} {args : List AV} {ret : AV} {mem' : AMem} {rs : List ResultVar} {nt : Nat} (hf : P.funcs[f]? = some fn) (hb : fn.body = some c) (hname : (fn.name == "runtime.NumGoroutine") = false) (hrs : fn.results.toList = rs) (hnt : fn.ntmps = nt)
    (h : MWf mem.length mem → ∀ Q : Exit → Tm → AMem → Prop, (∀ ex tm m, RetP P rs mem.length ret mem' ex tm m → Q ex tm m) → AW P nt c (enterTm 0 args) mem Q) : Ctr P f args mem ret mem' := by
  subst hrs; subst hnt
  exact Ctr.of_body hf hb hname fun hw => h hw _ fun _ _ _ h => h

theorem AW.seq_k {x y : Code} (h : ∀ K : Tm → AMem → Prop, (∀ tm' mem', AW P nt y tm' mem' Q → K tm' mem') → AW P nt x tm mem (Thn K Q)) : AW P nt (.seq x y) tm mem Q :=
  AW.seq (h _ fun _ _ h => h)

theorem AW.cond_t {c : Operand} {x y : Code} (hc : opd tm c = .one (.bool true)) (h : AW P nt x tm mem Q) : AW P nt (.cond c x y) tm mem Q := AW.cond hc (fun _ => h) (fun h => by cases h)
theorem AW.cond_f {c : Operand} {x y : Code} (hc : opd tm c = .one (.bool false)) (h : AW P nt y tm mem Q) : AW P nt (.cond c x y) tm mem Q := AW.cond hc (fun h => by cases h) (fun _ => h)

theorem Thn_n {K : Tm → AMem → Prop} {tm' : Tm} {m' : AMem} (h : K tm' m') : Thn K Q .normal tm' m' := h
theorem Thn_r {K : Tm → AMem → Prop} {tm' : Tm} {m' : AMem} (h : Q .ret tm' m') : Thn K Q .ret tm' m' := h
theorem Thn_e {K : Tm → AMem → Prop} {tm' : Tm} {m' : AMem} {id : Nat} (h : Q (.exit id) tm' m') : Thn K Q (.exit id) tm' m' := h
theorem InB_n {id : Nat} {tm' : Tm} {m' : AMem} (h : Q .normal tm' m') : InB id Q .normal tm' m' := h
theorem InB_r {id : Nat} {tm' : Tm} {m' : AMem} (h : Q .ret tm' m') : InB id Q .ret tm' m' := h
theorem InB_here {id : Nat} {tm' : Tm} {m' : AMem} (h : Q .normal tm' m') : InB id Q (.exit id) tm' m' := by simp only [InB, if_true]; exact h
theorem InB_far {id id' : Nat} {tm' : Tm} {m' : AMem} (hne : id' ≠ id) (h : Q (.exit id') tm' m') : InB id Q (.exit id') tm' m' := by simp only [InB, if_neg hne]; exact h

theorem RetP.drop {rs : List ResultVar} {ret : AV} {extra : AMem} {ex : Exit} (hex : ex = .normal ∨ ex = .ret) (hres : resA P rs tm (mem ++ extra) = some ret) (hb : ret.below mem.length = true) (hw : MWf mem.length mem) :
    RetP P rs mem.length ret mem ex tm (mem ++ extra) := ⟨hex, ret, hres, Hands.drop rfl hb hw⟩
theorem RetP.drop0 {rs : List ResultVar} {ret : AV} {ex : Exit} (hex : ex = .normal ∨ ex = .ret) (hres : resA P rs tm mem = some ret) (hb : ret.below mem.length = true) (hw : MWf mem.length mem) :
    RetP P rs mem.length ret mem ex tm mem := ⟨hex, ret, hres, Hands.drop (extra := []) (by simp) hb hw⟩
/-- A result that leads to rows of the call's own: those are handed back, and nothing else. -/
theorem RetP.pick {rs : List ResultVar} {ret : AV} {extra bs : AMem} {ex : Exit} (ks : List (Nat × Nat)) (hex : ex = .normal ∨ ex = .ret) (hx : (resA P rs tm (mem ++ extra)).bind (renV mem.length ks) = some ret) (hbs : picks (mem ++ extra) ks = some bs)
    (hd : distinctFrom mem.length ks) (hw : MWf mem.length mem) (hwb : MWf mem.length bs) :
    RetP P rs mem.length ret (mem ++ bs) ex tm (mem ++ extra) := by
  obtain ⟨x, hres, hx⟩ := Option.bind_eq_some_iff.1 hx
  exact ⟨hex, x, hres, Hands.pick rfl ks hbs hd hx hw hwb⟩

/-- A loop of at most n rounds. -/
def ARounds (P : Program) (nt : Nat) (c : Code) (Q : Exit → Tm → AMem → Prop) : Nat → Tm → AMem → Prop
  | 0, _, _ => False
  | n + 1, tm, mem => AW P nt c tm mem (Thn (ARounds P nt c Q n) Q)

theorem ARounds.succ {c : Code} {n : Nat} (h : ∀ K : Tm → AMem → Prop, (∀ tm' mem', ARounds P nt c Q n tm' mem' → K tm' mem') → AW P nt c tm mem (Thn K Q)) : ARounds P nt c Q (n + 1) tm mem := h _ fun _ _ h => h

theorem rounds_mono {c : Code} : ∀ (n : Nat) (Q1 Q2 : Exit → Act → World → Prop), (∀ e a w, Q1 e a w → Q2 e a w) → ∀ a w, Code.rounds P c Q1 n a w → Code.rounds P c Q2 n a w := by
  intro n Q1 Q2 hQ
  induction n with
  | zero => intro a w h; exact h
  | succ n ihn =>
    intro a w h
    refine wp_mono h ?_
    intro e a w h
    cases e with
    | normal => exact ihn a w h
    | _ => exact hQ _ _ _ h

theorem AW.rounds {c : Code} (n : Nat) (h : ARounds P nt c Q n tm mem) : AW P nt (.loop c) tm mem Q := by
  intro ρ a w hr
  refine wp_loop_rounds n ?_
  induction n generalizing tm mem ρ a w with
  | zero => exact h.elim
  | succ n ih =>
    refine wp_mono (h ρ a w hr) ?_
    rintro e a' w' ⟨ρ', tm', mem', hr', hs, hd, hq⟩
    cases e with
    | normal =>
      refine rounds_mono _ _ _ ?_ a' w' (ih hq ρ' a' w' hr')
      rintro e a'' w'' ⟨ρ'', tm'', mem'', hr'', hs', hd', hq'⟩
      exact ⟨ρ'', tm'', mem'', hr'', hs.trans hs', hd'.trans hd, hq'⟩
    | _ => exact ⟨ρ', tm', mem', hr', hs, hd, hq⟩

/-- FORGETTING ahead of a piece of code: no block goes. -/
theorem AW.weak {c : Code} {tm' : Tm} (h : Keeps tm tm') (g : AW P nt c tm' mem Q) : AW P nt c tm mem Q := by
  intro ρ a w hr
  obtain ⟨ρ', hr', hs⟩ := Weak.keep (nt := nt) (mem := mem) h ρ a w hr
  refine wp_mono (g ρ' a w hr') ?_
  rintro e a' w' ⟨ρ2, tm2, mem2, hr2, hs2, hd, hq⟩
  exact ⟨ρ2, tm2, mem2, hr2, (hs mem ρ w (Nat.le_refl _) (Step.refl _ _ _)).trans hs2, hd, hq⟩


theorem below_mono {L L' : Nat} (h : L ≤ L') : ∀ {c : CV}, c.below L = true → c.below L' = true
  | .ptr r _ _, hc => by simp only [CV.below, decide_eq_true_eq] at hc ⊢; omega
  | .sl r _ _ _, hc => by simp only [CV.below, decide_eq_true_eq] at hc ⊢; omega
  | .fn _ cs, hc => by
    simp only [CV.below, List.all_eq_true, decide_eq_true_eq] at hc ⊢
    exact fun c hcs => Nat.lt_of_lt_of_le (hc c hcs) h
  | .bool _, _ => rfl
  | .int _ _, _ => rfl
  | .str _, _ => rfl
  | .nilp, _ => rfl
  | .nils, _ => rfl
  | .nilf, _ => rfl
  | .nili, _ => rfl
  | .und, _ => rfl
  | .junk, _ => rfl
theorem all_below_mono {L L' : Nat} (h : L ≤ L') {cs : List CV} (hc : cs.all (CV.below L) = true) : cs.all (CV.below L') = true :=
  List.all_eq_true.2 fun c hcs => below_mono h (List.all_eq_true.1 hc c hcs)
theorem MWf_one {L : Nat} {b : Blk} (h : b.cells.all (CV.below 0) = true) : MWf L [b] := fun b' hb => by
  rw [List.mem_singleton.1 hb]; exact all_below_mono (Nat.zero_le _) h
theorem MWf_nil {L : Nat} : MWf L [] := fun b hb => by cases hb
theorem MWf_cons {L : Nat} {b : Blk} {m : AMem} (h : b.cells.all (CV.below L) = true) (hm : MWf L m) : MWf L (b :: m) := fun b' hb => by
  rcases List.mem_cons.1 hb with rfl | hb
  · exact h
  · exact hm b' hb
theorem MWf.grow {L L' : Nat} {m : AMem} (h : MWf L m) (hl : L ≤ L') : MWf L' m := fun b hb => all_below_mono hl (h b hb)
theorem MWf.app {L : Nat} {m l : AMem} (h : MWf L m) (hl : MWf L l) : MWf L (m ++ l) := fun b hb => by
  rcases List.mem_append.1 hb with hb | hb
  · exact h b hb
  · exact hl b hb
theorem get_lt {m : AMem} {r : Nat} {b : Blk} (h : m[r]? = some b) : r < m.length := (List.getElem?_eq_some_iff.1 h).1
theorem ints_vals {k : IntKind} (xs : List Int) : (xs.map (CV.int k)).all CV.isVal = true := by simp [CV.isVal]
theorem ints_below {k : IntKind} {L : Nat} (xs : List Int) : (xs.map (CV.int k)).all (CV.below L) = true := by simp [CV.below]


/-- The temporaries that are carried on as they stand. -/
def keepL (tm : Tm) (ks : List Nat) : Tm := ks.map fun k => (k, Tm.get tm k)
/-- Some blocks anew. -/
def setAll (m : AMem) : List (Nat × Blk) → AMem
  | [] => m
  | (k, b) :: r => setAll (m.set k b) r
theorem setAll_len : ∀ (u : List (Nat × Blk)) (m : AMem), (setAll m u).length = m.length
  | [], m => rfl
  | (k, b) :: u, m => by rw [setAll, setAll_len u]; simp

theorem keeps_keepL (tm : Tm) : ∀ ks : List Nat, Keeps tm (keepL tm ks)
  | [] => trivial
  | k :: ks => ⟨rfl, keeps_keepL tm ks⟩
theorem Keeps.append {tm : Tm} : ∀ {a b : Tm}, Keeps tm a → Keeps tm b → Keeps tm (a ++ b)
  | [], b, _, h => h
  | (j, v) :: a, b, h, g => ⟨h.1, Keeps.append h.2 g⟩

theorem Weak.to {tm' : Tm} {m1 extra : AMem} (hk : Keeps tm tm') (he : mem = m1 ++ extra) (ht : tm'.all (fun p => p.2.below m1.length) = true) (hw : MWf m1.length m1) : Weak nt tm mem tm' m1 :=
  Weak.trans (Weak.keep hk) (Weak.trunc he (fun p hp => List.all_eq_true.1 ht p hp) hw) (by rw [he]; simp)
theorem Weak.same {tm' : Tm} {m1 : AMem} (hk : Keeps tm tm') (he : mem = m1) : Weak nt tm mem tm' m1 := by subst he; exact Weak.keep hk

theorem AW.loopK {ι : Type} {c : Code} (keep : List Nat) (I : ι → Prop) (V : ι → Tm) (U : ι → List (Nat × Blk)) (μ : ι → Nat) (i : ι) (hi : I i) (hv : Keeps tm (V i)) (hm : setAll mem (U i) = mem)
    (h : ∀ i, I i → AW P nt c (V i ++ keepL tm keep) (setAll mem (U i)) (Thn (fun tm' mem' => ∃ j, I j ∧ μ j < μ i ∧ Weak nt tm' mem' (V j ++ keepL tm keep) (setAll mem (U j))) Q)) : AW P nt (.loop c) tm mem Q := by
  refine AW.weak (tm' := V i ++ keepL tm keep) (Keeps.append hv (keeps_keepL _ _)) ?_
  refine AW.loop (ι := { i // I i }) (fun j => V j.1 ++ keepL tm keep) (fun j => setAll mem (U j.1)) (fun j => μ j.1) ⟨i, hi⟩ rfl hm fun ⟨j, hj⟩ => ?_
  refine (h j hj).mono fun e tm' mem' hq => ?_
  cases e with
  | normal =>
    obtain ⟨k, hk, hlt, hw⟩ := hq
    exact ⟨⟨k, hk⟩, hlt, hw, by simp only [setAll_len]; exact Nat.le_refl _⟩
  | _ => exact hq

/-- A loop whose first round is walked apart: some rounds, each begun at a state that says what is needed. -/
def AL (P : Program) (nt : Nat) (c : Code) (Q : Exit → Tm → AMem → Prop) (m0 : AMem) (n : Nat) (tm : Tm) (mem : AMem) : Prop :=
  ∀ ρ0 w0 ρ a w, Rep ρ nt tm mem a w → Step m0 ρ0 w0 mem ρ w → Code.rounds P c (fun ex a' w' => ∃ ρ' tm' mem', Rep ρ' nt tm' mem' a' w' ∧ Step m0 ρ0 w0 mem' ρ' w' ∧ a'.defers = a.defers ∧ Q ex tm' mem') n a w

theorem AL.loop {c : Code} {n : Nat} (h : AL P nt c Q mem n tm mem) : AW P nt (.loop c) tm mem Q := fun ρ a w hr => wp_loop_rounds n (h ρ w ρ a w hr (Step.refl _ _ _))

theorem AL.succ {c : Code} {m0 : AMem} {n : Nat} (h : AW P nt c tm mem (Thn (fun tm' m' => ∃ T M, Weak nt tm' m' T M ∧ m0.length ≤ M.length ∧ AL P nt c Q m0 n T M) Q)) : AL P nt c Q m0 (n + 1) tm mem := by
  intro ρ0 w0 ρ a w hr hs
  refine wp_mono (h ρ a w hr) ?_
  rintro e a' w' ⟨ρ', tm', mem', hr', hs', hd, hq⟩
  have hst := hs.trans hs'
  cases e with
  | normal =>
    obtain ⟨T, M, hw, hl, hal⟩ := hq
    obtain ⟨ρ2, hr2, hs2⟩ := hw ρ' a' w' hr'
    refine rounds_mono _ _ _ ?_ a' w' (hal ρ0 w0 ρ2 a' w' hr2 (hs2 _ _ _ hl hst))
    rintro e a'' w'' ⟨ρ'', tm'', mem'', hr'', hs'', hd', hq'⟩
    exact ⟨ρ'', tm'', mem'', hr'', hs'', hd'.trans hd, hq'⟩
  | _ => exact ⟨ρ', tm', mem', hr', hst, hd, hq⟩

theorem AL.inv {ι : Type} {c : Code} {m0 : AMem} (I : ι → Prop) (T : ι → Tm) (M : ι → AMem) (μ : ι → Nat) (hl : ∀ i, I i → m0.length ≤ (M i).length)
    (h : ∀ i, I i → AW P nt c (T i) (M i) (Thn (fun tm' mem' => ∃ j, I j ∧ μ j < μ i ∧ Weak nt tm' mem' (T j) (M j)) Q)) : ∀ (n : Nat) (i : ι), I i → μ i ≤ n → AL P nt c Q m0 (n + 1) (T i) (M i) := by
  intro n
  induction n with
  | zero =>
    intro i hi hn
    refine AL.succ ((h i hi).mono fun e tm' mem' hq => ?_)
    cases e with
    | normal => obtain ⟨j, hj, hlt, _⟩ := hq; omega
    | _ => exact hq
  | succ n ih =>
    intro i hi hn
    refine AL.succ ((h i hi).mono fun e tm' mem' hq => ?_)
    cases e with
    | normal => obtain ⟨j, hj, hlt, hw⟩ := hq; exact ⟨_, _, hw, hl j hj, ih j hj (by omega)⟩
    | _ => exact hq

/-- The first round apart; then rounds by an invariant. -/
theorem AW.peelK {ι : Type} {c : Code} (I : ι → Prop) (T : ι → Tm) (M : ι → AMem) (μ : ι → Nat) (N : Nat) (hl : ∀ i, I i → mem.length ≤ (M i).length)
    (h1 : AW P nt c tm mem (Thn (fun tm' mem' => ∃ j, I j ∧ μ j ≤ N ∧ Weak nt tm' mem' (T j) (M j)) Q))
    (h : ∀ i, I i → AW P nt c (T i) (M i) (Thn (fun tm' mem' => ∃ j, I j ∧ μ j < μ i ∧ Weak nt tm' mem' (T j) (M j)) Q)) : AW P nt (.loop c) tm mem Q := by
  refine AL.loop (n := N + 2) (AL.succ (h1.mono fun e tm' mem' hq => ?_))
  cases e with
  | normal => obtain ⟨j, hj, hlt, hw⟩ := hq; exact ⟨_, _, hw, hl j hj, AL.inv I T M μ hl h N j hj hlt⟩
  | _ => exact hq

theorem AW.peelU {ι : Type} {c : Code} (keep : List Nat) (I : ι → Prop) (V : ι → Tm) (U : ι → List (Nat × Blk)) (E : ι → AMem) (μ : ι → Nat) (N : Nat)
    (h1 : AW P nt c tm mem (Thn (fun tm' mem' => ∃ j, I j ∧ μ j ≤ N ∧ Weak nt tm' mem' (V j ++ keepL tm keep) (setAll mem (U j) ++ E j)) Q))
    (h : ∀ i, I i → AW P nt c (V i ++ keepL tm keep) (setAll mem (U i) ++ E i) (Thn (fun tm' mem' => ∃ j, I j ∧ μ j < μ i ∧ Weak nt tm' mem' (V j ++ keepL tm keep) (setAll mem (U j) ++ E j)) Q)) : AW P nt (.loop c) tm mem Q :=
  AW.peelK I (fun j => V j ++ keepL tm keep) (fun j => setAll mem (U j) ++ E j) μ N (fun i _ => by simp only [List.length_append, setAll_len]; omega) h1 h

/-- Two arms come together. -/
theorem AW.condJ {c : Operand} {x y : Code} {b : Bool} (hc : opd tm c = .one (.bool b)) (keep : List Nat) (V : Tm) (U : List (Nat × Blk))
    (ht : b = true → AW P nt x tm mem (Thn (fun tm' m' => Weak nt tm' m' (V ++ keepL tm keep) (setAll mem U)) Q)) (hf : b = false → AW P nt y tm mem (Thn (fun tm' m' => Weak nt tm' m' (V ++ keepL tm keep) (setAll mem U)) Q))
    (h : Q .normal (V ++ keepL tm keep) (setAll mem U)) : AW P nt (.cond c x y) tm mem Q := by
  have go : ∀ {z : Code}, AW P nt z tm mem (Thn (fun tm' m' => Weak nt tm' m' (V ++ keepL tm keep) (setAll mem U)) Q) → AW P nt z tm mem Q := by
    intro z hz ρ a w hr
    refine wp_mono (hz ρ a w hr) ?_
    rintro e a' w' ⟨ρ', tm', mem', hr', hs, hd, hq⟩
    cases e with
    | normal =>
      obtain ⟨ρ2, hr2, hs2⟩ := hq ρ' a' w' hr'
      exact ⟨ρ2, _, _, hr2, hs2 _ _ _ (by rw [setAll_len]; exact Nat.le_refl _) hs, hd, h⟩
    | _ => exact ⟨ρ', tm', mem', hr', hs, hd, hq⟩
  exact AW.cond hc (fun hb => go (ht hb)) (fun hb => go (hf hb))

theorem iw0 : IntKind.i64.wrap 0 = 0 := rfl
theorem iw1 : IntKind.i64.wrap 1 = 1 := rfl
theorem iw2 : IntKind.i64.wrap 2 = 2 := rfl
theorem iw3 : IntKind.i64.wrap 3 = 3 := rfl
theorem iw4 : IntKind.i64.wrap 4 = 4 := rfl
theorem iw5 : IntKind.i64.wrap 5 = 5 := rfl
theorem iw6 : IntKind.i64.wrap 6 = 6 := rfl
theorem iw7 : IntKind.i64.wrap 7 = 7 := rfl
theorem iw8 : IntKind.i64.wrap 8 = 8 := rfl
theorem iw9 : IntKind.i64.wrap 9 = 9 := rfl
theorem iw10 : IntKind.i64.wrap 10 = 10 := rfl
theorem iw11 : IntKind.i64.wrap 11 = 11 := rfl
theorem iw12 : IntKind.i64.wrap 12 = 12 := rfl
theorem iw13 : IntKind.i64.wrap 13 = 13 := rfl
theorem iw14 : IntKind.i64.wrap 14 = 14 := rfl
theorem iw15 : IntKind.i64.wrap 15 = 15 := rfl
theorem iw16 : IntKind.i64.wrap 16 = 16 := rfl
theorem iw17 : IntKind.i64.wrap 17 = 17 := rfl
theorem iw18 : IntKind.i64.wrap 18 = 18 := rfl
theorem iw19 : IntKind.i64.wrap 19 = 19 := rfl
theorem iw20 : IntKind.i64.wrap 20 = 20 := rfl
theorem iw21 : IntKind.i64.wrap 21 = 21 := rfl
theorem iw22 : IntKind.i64.wrap 22 = 22 := rfl
theorem iw23 : IntKind.i64.wrap 23 = 23 := rfl
theorem iw24 : IntKind.i64.wrap 24 = 24 := rfl
theorem iw25 : IntKind.i64.wrap 25 = 25 := rfl
theorem iw26 : IntKind.i64.wrap 26 = 26 := rfl
theorem iw27 : IntKind.i64.wrap 27 = 27 := rfl
theorem iw28 : IntKind.i64.wrap 28 = 28 := rfl
theorem iw29 : IntKind.i64.wrap 29 = 29 := rfl
theorem iw30 : IntKind.i64.wrap 30 = 30 := rfl
theorem iw31 : IntKind.i64.wrap 31 = 31 := rfl
theorem iw32 : IntKind.i64.wrap 32 = 32 := rfl
theorem iw33 : IntKind.i64.wrap 33 = 33 := rfl
theorem iw34 : IntKind.i64.wrap 34 = 34 := rfl
theorem iw35 : IntKind.i64.wrap 35 = 35 := rfl
theorem iw36 : IntKind.i64.wrap 36 = 36 := rfl
theorem iw37 : IntKind.i64.wrap 37 = 37 := rfl
theorem iw38 : IntKind.i64.wrap 38 = 38 := rfl
theorem iw39 : IntKind.i64.wrap 39 = 39 := rfl
theorem iw40 : IntKind.i64.wrap 40 = 40 := rfl
theorem rg0 : List.range' 0 0 = [] := rfl
theorem rg1 : List.range' 0 1 = [0] := rfl
theorem rg2 : List.range' 0 2 = [0, 1] := rfl
theorem rg3 : List.range' 0 3 = [0, 1, 2] := rfl
theorem rg4 : List.range' 0 4 = [0, 1, 2, 3] := rfl
theorem rg5 : List.range' 0 5 = [0, 1, 2, 3, 4] := rfl
theorem rg6 : List.range' 0 6 = [0, 1, 2, 3, 4, 5] := rfl
theorem rg7 : List.range' 0 7 = [0, 1, 2, 3, 4, 5, 6] := rfl
theorem rg8 : List.range' 0 8 = [0, 1, 2, 3, 4, 5, 6, 7] := rfl
theorem rg9 : List.range' 0 9 = [0, 1, 2, 3, 4, 5, 6, 7, 8] := rfl
theorem rg10 : List.range' 0 10 = [0, 1, 2, 3, 4, 5, 6, 7, 8, 9] := rfl
theorem rg11 : List.range' 0 11 = [0, 1, 2, 3, 4, 5, 6, 7, 8, 9, 10] := rfl
theorem rg12 : List.range' 0 12 = [0, 1, 2, 3, 4, 5, 6, 7, 8, 9, 10, 11] := rfl
theorem rg13 : List.range' 0 13 = [0, 1, 2, 3, 4, 5, 6, 7, 8, 9, 10, 11, 12] := rfl
theorem rg14 : List.range' 0 14 = [0, 1, 2, 3, 4, 5, 6, 7, 8, 9, 10, 11, 12, 13] := rfl
theorem rg15 : List.range' 0 15 = [0, 1, 2, 3, 4, 5, 6, 7, 8, 9, 10, 11, 12, 13, 14] := rfl
theorem rg16 : List.range' 0 16 = [0, 1, 2, 3, 4, 5, 6, 7, 8, 9, 10, 11, 12, 13, 14, 15] := rfl
end
end Go.Eng
