/-
  ENGINE, PART N: short names for what a walk is reckoned with.
-/
import Derived.Test.YthokogkeahcepaaEngM
set_option linter.unusedVariables false
namespace Go.Eng
open Go
theorem j0 : ∀ {α : Type} {a : α} {as : List α} {α_1 : Type} {b : α_1} {bs : List α_1}, (a :: as).zip (b :: bs) = (a, b) :: as.zip bs := @List.zip_cons_cons
theorem j2 : ∀ {α : Type} (as bs cs : List α), as ++ bs ++ cs = as ++ (bs ++ cs) := @List.append_assoc
theorem j3 : ∀ {α : Type} {a : α} {as bs : List α}, a :: as ++ bs = a :: (as ++ bs) := @List.cons_append
theorem j4 : ∀ {α : Type} (as : List α), [] ++ as = as := @List.nil_append
theorem j5 : ∀ {α : Type} {β : Type} {f : α → β} {a : α} {l : List α}, List.map f (a :: l) = f a :: List.map f l := @List.map_cons
theorem j6 : ∀ {α : Type} {β : Type} {f : α → β}, List.map f [] = [] := @List.map_nil
theorem j7 : ∀ {α : Type} {a : α} {l : List α}, (a :: l)[0]? = some a := @List.getElem?_cons_zero
theorem j8 : ∀ {α : Type} {a : α} {i : Nat} {l : List α}, (a :: l)[i + 1]? = l[i]? := @List.getElem?_cons_succ
theorem j9 : ∀ {α : Type} {x : α} {xs : List α} {a : α}, (x :: xs).set 0 a = a :: xs := @List.set_cons_zero
theorem j10 : ∀ {α : Type} {x : α} {xs : List α} {i : Nat} {a : α}, (x :: xs).set (i + 1) a = x :: xs.set i a := @List.set_cons_succ
theorem j11 : ∀ {α : Type} {a : α} {as : List α}, (a :: as).length = as.length + 1 := @List.length_cons
theorem j13 : ∀ {α : Type} {as bs : List α}, (as ++ bs).length = as.length + bs.length := @List.length_append
theorem j14 : ∀ {α : Type} {as : List α} {i : Nat} {a : α}, (as.set i a).length = as.length := @List.length_set
theorem j15 : ∀ {α : Type} {a : α} {l : List α} {f : α → Bool}, (a :: l).all f = (f a && l.all f) := @List.all_cons
theorem j16 : ∀ {α : Type} {f : α → Bool}, [].all f = true := @List.all_nil
theorem j17 : ∀ {α : Type} {xs : List α} {i : Nat}, xs.toArray[i]? = xs[i]? := @List.getElem?_toArray
theorem j18 : ∀ {α : Type} {as : List α}, as.toArray.toList = as := @List.toList_toArray
theorem j19 : ∀ {α : Type} {a : α} {l : List α} {i : Nat}, List.drop (i + 1) (a :: l) = List.drop i l := @List.drop_succ_cons
theorem j20 : ∀ {α : Type} {l : List α}, List.drop 0 l = l := @List.drop_zero
theorem j21 : ∀ {α : Type} {a : α} {as : List α} {i : Nat}, List.take (i + 1) (a :: as) = a :: List.take i as := @List.take_succ_cons
theorem j22 : ∀ {α : Type} {l : List α}, List.take 0 l = [] := @List.take_zero
theorem j23 : ∀ {α : Type} {β : Type} (a : α) (f : α → β), Option.map f (some a) = some (f a) := @Option.map_some
theorem j24 : ∀ {α : Type} {β : Type} (f : α → β), Option.map f none = none := @Option.map_none
theorem j25 : ∀ {α : Type} {β : Type} (a : α) (f : α → Option β), (some a).bind f = f a := @Option.bind_some
theorem j26 : ∀ {α : Type} {β : Type} (f : α → Option β), none.bind f = none := @Option.bind_none
theorem j27 : ∀ {α : Type} {a b : α}, (some a).getD b = a := @Option.getD_some
theorem j28 : ∀ {α : Type} {a : α}, (some a).isSome = true := @Option.isSome_some
theorem j29 : ∀ (n : Nat), 0 + n = n := @Nat.zero_add
theorem j30 : ∀ (n : Nat), n + 0 = n := @Nat.add_zero
theorem j31 : ∀ (n : Nat), 0 * n = 0 := @Nat.zero_mul
theorem j32 : ∀ (n : Nat), 1 * n = n := @Nat.one_mul
theorem j33 : ∀ (n : Nat), n * 1 = n := @Nat.mul_one
theorem j34 : ∀ (n : Nat), n * 0 = 0 := @Nat.mul_zero
theorem j35 : ∀ (n m k : Nat), n + m + k = n + (m + k) := @Nat.add_assoc
theorem j36 : ∀ (n : Nat), n.succ ≠ n := @Nat.succ_ne_self
theorem j39 : Int.toNat 0 = 0 := @Int.toNat_zero
theorem j40 : Int.toNat 1 = 1 := @Int.toNat_one
theorem j41 : ∀ (b : Bool), (b && true) = b := @Bool.and_true
theorem j42 : ∀ (b : Bool), (true && b) = b := @Bool.true_and
theorem j43 : ∀ (b : Bool), (b && false) = false := @Bool.and_false
theorem j44 : ∀ (b : Bool), (false && b) = false := @Bool.false_and
theorem j45 : ∀ (b : Bool), (b || false) = b := @Bool.or_false
theorem j46 : ∀ (b : Bool), (b || true) = true := @Bool.or_true
theorem j47 : ∀ (b : Bool), (true || b) = true := @Bool.true_or
theorem j48 : ∀ (b : Bool), (false || b) = b := @Bool.false_or
theorem j49 : (!true) = false := @Bool.not_true
theorem j50 : (!false) = true := @Bool.not_false
theorem j51 : ∀ {α : Type} {a b : α}, (bif true then a else b) = a := @Bool.cond_true
theorem j52 : ∀ {α : Type} {a b : α}, (bif false then a else b) = b := @Bool.cond_false
theorem j53 : ∀ (n : Nat), n ≤ n := @Nat.le_refl
theorem j54 : (false = true) = False := @Bool.false_eq_true
theorem j55 : (true = false) = False := @Bool.true_eq_false
theorem j56 : ∀ (n : Nat), n < n + 1 := @Nat.lt_add_one
theorem j57 : ∀ {α : Type} {as : List α}, as.toArray.size = as.length := @List.size_toArray
theorem j58 : ∀ {α : Type} {β : Type} {f : α → β} {xs : Array α}, (Array.map f xs).size = xs.size := @Array.size_map
theorem j59 : ∀ {α : Type} {β : Type} {f : α → β} {l : List α}, Array.map f l.toArray = (List.map f l).toArray := @List.map_toArray
theorem j60 : Array.range 0 = #[] := @Array.range_zero'
theorem j61 : List.range 0 = [] := @List.range_zero
theorem j62 : ∀ {α : Type} {β : Type} {f : α → List β}, List.flatMap f [] = [] := @List.flatMap_nil
theorem j63 : ∀ {α : Type} [inst : BEq α] [LawfulBEq α] (a : α), (a != a) = false := @bne_self_eq_false
theorem j64 : ∀ {α : Type} [inst : BEq α] [ReflBEq α] (a : α), (a == a) = true := @beq_self_eq_true
theorem j65 : ∀ (h : Decidable True), decide True = true := @decide_true
theorem j66 : ∀ (h : Decidable False), decide False = false := @decide_false
theorem j67 : (¬True) = False := @not_true_eq_false
theorem j68 : (¬False) = True := @not_false_eq_true
theorem j69 : ∀ {P : Program} {ops : Array Oper} {tm : Tm} {mem : AMem} {K : Tm → AMem → Prop}, AOps P ops [] tm mem K = K tm mem := @AOps_nil
theorem j70 : ∀ {P : Program} {ops : Array Oper} {rest : List Oper} {d : Option Tmp} {op : Op} {t : TypeId} {pos : String} {af : Array Edge} {tm : Tm} {mem : AMem} {K : Tm → AMem → Prop}, AOps P ops ({ dst := d, op := op, type := t, pos := pos, after := af, guard := none } :: rest) tm mem K = OThen P ops rest d tm mem K op := @AOps_run
theorem j71 : ∀ {P : Program} {ops : Array Oper} {rest : List Oper} {d : Option Tmp} {op : Op} {t : TypeId} {pos : String} {af : Array Edge} {g : Nat × Bool} {tm : Tm} {mem : AMem} {K : Tm → AMem → Prop}, AOps P ops ({ dst := d, op := op, type := t, pos := pos, after := af, guard := some g } :: rest) tm mem K = GThen P ops rest { dst := d, op := op, type := t, pos := pos, after := af, guard := some g } tm mem K (wantedA ops { dst := d, op := op, type := t, pos := pos, after := af, guard := some g } tm) := @AOps_grd
theorem j72 : ∀ {P : Program} {ops : Array Oper} {rest : List Oper} {d : Option Tmp} {tm : Tm} {K : Tm → AMem → Prop} {x : AV} {mem' : AMem}, VThen P ops rest d tm K (some (x, mem')) = AOps P ops rest (putO d x tm) mem' K := @VThen_some
theorem j73 : ∀ {P : Program} {ops : Array Oper} {rest : List Oper} {d : Option Tmp} {tm : Tm} {K : Tm → AMem → Prop} {mem' : AMem}, SThen P ops rest d tm K (some mem') = AOps P ops rest (putO d (AV.one CV.und) tm) mem' K := @SThen_some
theorem j74 : ∀ {P : Program} {ops : Array Oper} {rest : List Oper} {d : Option Tmp} {tm : Tm} {K : Tm → AMem → Prop} {g : FuncId} {cs : List (Nat × Nat × Nat)} {args : List AV} {mem : AMem}, FThen P ops rest d tm K (AV.one (CV.fn g cs)) args mem = CThen P ops rest d tm K g (args ++ capsAV cs) mem := @FThen_fn
theorem j75 : ∀ {P : Program} {ops : Array Oper} {rest : List Oper} {d : Option Tmp} {op : Op} {t : TypeId} {pos : String} {af : Array Edge} {g : Option (Nat × Bool)} {tm : Tm} {mem : AMem} {K : Tm → AMem → Prop}, GThen P ops rest { dst := d, op := op, type := t, pos := pos, after := af, guard := g } tm mem K (some true) = OThen P ops rest d tm mem K op := @GThen_true
theorem j76 : ∀ {P : Program} {ops : Array Oper} {rest : List Oper} {d : Option Tmp} {op : Op} {t : TypeId} {pos : String} {af : Array Edge} {g : Option (Nat × Bool)} {tm : Tm} {mem : AMem} {K : Tm → AMem → Prop}, GThen P ops rest { dst := d, op := op, type := t, pos := pos, after := af, guard := g } tm mem K (some false) = AOps P ops rest (putO d (AV.one CV.und) tm) mem K := @GThen_false
theorem j77 : ∀ {P : Program} {ops : Array Oper} {tm : Tm} {cur : AMem} {hist : List AMem} {K : Tm → AMem → Prop}, AOpsD P ops [] tm cur hist [] K = K tm cur := @AOpsD_nil
theorem j78 : ∀ {P : Program} {ops : Array Oper} {rest : Pl} {d : Option Tmp} {op : Op} {t : TypeId} {pos : String} {af : Array Edge} {tm : Tm} {cur : AMem} {hist : List AMem} {ws : List (Nat × Nat)} {K : Tm → AMem → Prop} {p : Plan}, AOpsD P ops (({ dst := d, op := op, type := t, pos := pos, after := af, guard := none }, p) :: rest) tm cur hist ws K = DOp P ops rest d tm cur hist ws K op none p := @AOpsD_run
theorem j79 : ∀ {P : Program} {ops : Array Oper} {rest : Pl} {d : Option Tmp} {op : Op} {t : TypeId} {pos : String} {af : Array Edge} {tm : Tm} {cur : AMem} {hist : List AMem} {ws : List (Nat × Nat)} {K : Tm → AMem → Prop} {p : Plan} {g : Nat × Bool}, AOpsD P ops (({ dst := d, op := op, type := t, pos := pos, after := af, guard := some g }, p) :: rest) tm cur hist ws K = DGrd P ops rest d tm cur hist ws K op (some g) p (wantedA ops { dst := d, op := op, type := t, pos := pos, after := af, guard := some g } tm) := @AOpsD_grd
theorem j80 : ∀ {P : Program} {ops : Array Oper} {rest : Pl} {d : Option Tmp} {op : Op} {tm : Tm} {cur : AMem} {hist : List AMem} {ws : List (Nat × Nat)} {K : Tm → AMem → Prop} {p : Plan} {og : Option (Nat × Bool)}, DGrd P ops rest d tm cur hist ws K op og p (some true) = DOp P ops rest d tm cur hist ws K op og p := @DGrd_true
theorem j81 : ∀ {P : Program} {ops : Array Oper} {rest : Pl} {d : Option Tmp} {op : Op} {tm : Tm} {cur : AMem} {hist : List AMem} {ws : List (Nat × Nat)} {K : Tm → AMem → Prop} {p : Plan} {og : Option (Nat × Bool)}, DGrd P ops rest d tm cur hist ws K op og p (some false) = AOpsD P ops rest (putO d (AV.one CV.und) tm) cur (if p.chain = true then hist ++ [cur] else hist) ws K := @DGrd_false
theorem j82 : ∀ {P : Program} {ops : Array Oper} {rest : Pl} {d : Option Tmp} {tm : Tm} {cur : AMem} {hist : List AMem} {ws : List (Nat × Nat)} {K : Tm → AMem → Prop} {x : AV}, DVal P ops rest d tm cur hist ws K (some (x, [])) = AOpsD P ops rest (putO d x tm) cur hist ws K := @DVal_some
theorem j83 : ∀ {P : Program} {ops : Array Oper} {rest : Pl} {d : Option Tmp} {tm : Tm} {cur : AMem} {hist : List AMem} {ws : List (Nat × Nat)} {K : Tm → AMem → Prop} {x : AV}, DLoad P ops rest d tm cur hist ws K (some x) = AOpsD P ops rest (putO d x tm) cur hist ws K := @DLoad_some
theorem j84 : ∀ {P : Program} {ops : Array Oper} {rest : Pl} {d : Option Tmp} {tm : Tm} {cur : AMem} {hist : List AMem} {ws : List (Nat × Nat)} {K : Tm → AMem → Prop} {x : AV} {lo r v o : Nat}, DLoadW P ops rest d tm cur hist ws K lo (AV.one (CV.ptr r v o)) (some x) = AOpsD P ops rest (putO d x tm) cur hist ((lo, r) :: ws) K := @DLoadW_some
theorem j85 : ∀ {P : Program} {ops : Array Oper} {rest : Pl} {d : Option Tmp} {tm : Tm} {hist : List AMem} {ws : List (Nat × Nat)} {K : Tm → AMem → Prop} {x : AV} {mem' : AMem}, DWr P ops rest d tm hist ws K (some (x, mem')) = AOpsD P ops rest (putO d x tm) mem' (hist ++ [mem']) ws K := @DWr_some
theorem j86 : ∀ {P : Program} {ops : Array Oper} {rest : Pl} {d : Option Tmp} {t : TypeId} {tm : Tm} {cur : AMem} {hist : List AMem} {ws : List (Nat × Nat)} {K : Tm → AMem → Prop} {z : Value}, DFl P ops rest d tm cur hist ws K t (some z) = AOpsD P ops rest (putO d (AV.one (CV.ptr (List.length cur) 0 0)) tm) (cur ++ [{ kind := BK.fix, ty := t, ver := 0, esz := 0, cells := List.map cellOf z.cells.toList }]) (hist ++ [cur ++ [{ kind := BK.fix, ty := t, ver := 0, esz := 0, cells := List.map cellOf z.cells.toList }]]) ws K := @DFl_some
theorem j87 : ∀ {P : Program} {ops : Array Oper} {rest : Pl} {d : Option Tmp} {tm : Tm} {cur : AMem} {hist : List AMem} {ws : List (Nat × Nat)} {K : Tm → AMem → Prop} {g : FuncId} {cs : List (Nat × Nat × Nat)} {args : List AV}, DFn P ops rest d tm cur hist ws K false (AV.one (CV.fn g cs)) args = DCall P ops rest d tm cur hist ws K g (args ++ capsAV cs) := @DFn_ext
theorem j88 : ∀ {P : Program} {ops : Array Oper} {rest : Pl} {d : Option Tmp} {tm : Tm} {cur : AMem} {hist : List AMem} {ws : List (Nat × Nat)} {K : Tm → AMem → Prop} {g : FuncId} {cs : List (Nat × Nat × Nat)} {args : List AV}, DFn P ops rest d tm cur hist ws K true (AV.one (CV.fn g cs)) args = DCallW P ops rest d tm cur hist ws K g (args ++ capsAV cs) := @DFn_wr
end Go.Eng
