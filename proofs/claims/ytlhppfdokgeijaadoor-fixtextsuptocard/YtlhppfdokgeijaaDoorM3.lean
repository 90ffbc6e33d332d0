/- Walks and facts of this seat's program over abstract states, printed by programs of mine; no conditions but those that each theorem names. -/
import Derived.Test.YtlhppfdokgeijaaDoorM2
import Derived.Test.YtlhppfdokgeijaaDoorProg
import Derived.ScopeJumps
import Derived.Scope
import Derived.JoinedCond
import Derived.LaidMore
import Derived.Stop.Joined
/-
  FACTS on the types of this seat's program, written by a program of mine (gen_facts.py).
-/
set_option maxRecDepth 100000
namespace Go.Proofs.YtlhppfdokgeijaaDoor
open Go Go.Eng
theorem fol : Tryd.prog.follows .mixedOrders = true := by kernel_rfl
theorem sz1 : szOf Tryd.prog 1 = some 1 := by kernel_rfl
theorem by1 : byOf Tryd.prog 1 = some 8 := by kernel_rfl
theorem ag1 : aggOf Tryd.prog 1 = some false := by kernel_rfl
theorem zr1 : zeroOf Tryd.prog 1 = some .nilFunc := by kernel_rfl
theorem sz2 : szOf Tryd.prog 2 = some 1 := by kernel_rfl
theorem by2 : byOf Tryd.prog 2 = some 8 := by kernel_rfl
theorem ag2 : aggOf Tryd.prog 2 = some false := by kernel_rfl
theorem zr2 : zeroOf Tryd.prog 2 = some (.int .i64 0) := by kernel_rfl
theorem sz3 : szOf Tryd.prog 3 = some 1 := by kernel_rfl
theorem by3 : byOf Tryd.prog 3 = some 8 := by kernel_rfl
theorem ag3 : aggOf Tryd.prog 3 = some false := by kernel_rfl
theorem zr3 : zeroOf Tryd.prog 3 = some (.int .i64 0) := by kernel_rfl
theorem sz4 : szOf Tryd.prog 4 = some 1 := by kernel_rfl
theorem by4 : byOf Tryd.prog 4 = some 1 := by kernel_rfl
theorem ag4 : aggOf Tryd.prog 4 = some false := by kernel_rfl
theorem zr4 : zeroOf Tryd.prog 4 = some (.bool false) := by kernel_rfl
theorem sz5 : szOf Tryd.prog 5 = some 1 := by kernel_rfl
theorem by5 : byOf Tryd.prog 5 = some 1 := by kernel_rfl
theorem ag5 : aggOf Tryd.prog 5 = some false := by kernel_rfl
theorem zr5 : zeroOf Tryd.prog 5 = some (.int .u8 0) := by kernel_rfl
theorem sz9 : szOf Tryd.prog 9 = some 1 := by kernel_rfl
theorem by9 : byOf Tryd.prog 9 = some 16 := by kernel_rfl
theorem ag9 : aggOf Tryd.prog 9 = some false := by kernel_rfl
theorem zr9 : zeroOf Tryd.prog 9 = some (.string ByteArray.empty) := by kernel_rfl
theorem sz12 : szOf Tryd.prog 12 = some 1 := by kernel_rfl
theorem by12 : byOf Tryd.prog 12 = some 8 := by kernel_rfl
theorem ag12 : aggOf Tryd.prog 12 = some false := by kernel_rfl
theorem zr12 : zeroOf Tryd.prog 12 = some (.int .u64 0) := by kernel_rfl
theorem sz15 : szOf Tryd.prog 15 = some 1 := by kernel_rfl
theorem by15 : byOf Tryd.prog 15 = some 8 := by kernel_rfl
theorem ag15 : aggOf Tryd.prog 15 = some false := by kernel_rfl
theorem zr15 : zeroOf Tryd.prog 15 = some (.pointer none) := by kernel_rfl
theorem sz16 : szOf Tryd.prog 16 = some 1 := by kernel_rfl
theorem by16 : byOf Tryd.prog 16 = some 8 := by kernel_rfl
theorem ag16 : aggOf Tryd.prog 16 = some false := by kernel_rfl
theorem zr16 : zeroOf Tryd.prog 16 = some (.pointer none) := by kernel_rfl
theorem sz17 : szOf Tryd.prog 17 = some 1 := by kernel_rfl
theorem by17 : byOf Tryd.prog 17 = some 8 := by kernel_rfl
theorem ag17 : aggOf Tryd.prog 17 = some false := by kernel_rfl
theorem zr17 : zeroOf Tryd.prog 17 = some (.pointer none) := by kernel_rfl
theorem sz20 : szOf Tryd.prog 20 = some 1 := by kernel_rfl
theorem by20 : byOf Tryd.prog 20 = some 16 := by kernel_rfl
theorem ag20 : aggOf Tryd.prog 20 = some false := by kernel_rfl
theorem zr20 : zeroOf Tryd.prog 20 = some .nilIface := by kernel_rfl
theorem sz21 : szOf Tryd.prog 21 = some 1 := by kernel_rfl
theorem by21 : byOf Tryd.prog 21 = some 4 := by kernel_rfl
theorem ag21 : aggOf Tryd.prog 21 = some false := by kernel_rfl
theorem zr21 : zeroOf Tryd.prog 21 = some (.int .i32 0) := by kernel_rfl
theorem sz22 : szOf Tryd.prog 22 = some 1 := by kernel_rfl
theorem by22 : byOf Tryd.prog 22 = some 8 := by kernel_rfl
theorem ag22 : aggOf Tryd.prog 22 = some false := by kernel_rfl
theorem zr22 : zeroOf Tryd.prog 22 = some (.int .i64 0) := by kernel_rfl
theorem sz23 : szOf Tryd.prog 23 = some 1 := by kernel_rfl
theorem by23 : byOf Tryd.prog 23 = some 8 := by kernel_rfl
theorem ag23 : aggOf Tryd.prog 23 = some false := by kernel_rfl
theorem zr23 : zeroOf Tryd.prog 23 = some .nilFunc := by kernel_rfl
theorem sz24 : szOf Tryd.prog 24 = some 1 := by kernel_rfl
theorem by24 : byOf Tryd.prog 24 = some 8 := by kernel_rfl
theorem ag24 : aggOf Tryd.prog 24 = some false := by kernel_rfl
theorem zr24 : zeroOf Tryd.prog 24 = some .nilFunc := by kernel_rfl
theorem sz25 : szOf Tryd.prog 25 = some 1 := by kernel_rfl
theorem by25 : byOf Tryd.prog 25 = some 8 := by kernel_rfl
theorem ag25 : aggOf Tryd.prog 25 = some false := by kernel_rfl
theorem zr25 : zeroOf Tryd.prog 25 = some .nilFunc := by kernel_rfl
theorem sz26 : szOf Tryd.prog 26 = some 1 := by kernel_rfl
theorem by26 : byOf Tryd.prog 26 = some 8 := by kernel_rfl
theorem ag26 : aggOf Tryd.prog 26 = some false := by kernel_rfl
theorem zr26 : zeroOf Tryd.prog 26 = some .nilFunc := by kernel_rfl
theorem sz27 : szOf Tryd.prog 27 = some 1 := by kernel_rfl
theorem by27 : byOf Tryd.prog 27 = some 8 := by kernel_rfl
theorem ag27 : aggOf Tryd.prog 27 = some false := by kernel_rfl
theorem zr27 : zeroOf Tryd.prog 27 = some .nilFunc := by kernel_rfl
theorem sz28 : szOf Tryd.prog 28 = some 1 := by kernel_rfl
theorem by28 : byOf Tryd.prog 28 = some 8 := by kernel_rfl
theorem ag28 : aggOf Tryd.prog 28 = some false := by kernel_rfl
theorem zr28 : zeroOf Tryd.prog 28 = some .nilFunc := by kernel_rfl
theorem sz29 : szOf Tryd.prog 29 = some 1 := by kernel_rfl
theorem by29 : byOf Tryd.prog 29 = some 8 := by kernel_rfl
theorem ag29 : aggOf Tryd.prog 29 = some false := by kernel_rfl
theorem zr29 : zeroOf Tryd.prog 29 = some (.int .u64 0) := by kernel_rfl
theorem sz30 : szOf Tryd.prog 30 = some 1 := by kernel_rfl
theorem by30 : byOf Tryd.prog 30 = some 8 := by kernel_rfl
theorem ag30 : aggOf Tryd.prog 30 = some false := by kernel_rfl
theorem zr30 : zeroOf Tryd.prog 30 = some .nilFunc := by kernel_rfl
theorem sz31 : szOf Tryd.prog 31 = some 1 := by kernel_rfl
theorem by31 : byOf Tryd.prog 31 = some 8 := by kernel_rfl
theorem ag31 : aggOf Tryd.prog 31 = some false := by kernel_rfl
theorem zr31 : zeroOf Tryd.prog 31 = some .nilFunc := by kernel_rfl
theorem sz32 : szOf Tryd.prog 32 = some 1 := by kernel_rfl
theorem by32 : byOf Tryd.prog 32 = some 8 := by kernel_rfl
theorem ag32 : aggOf Tryd.prog 32 = some false := by kernel_rfl
theorem zr32 : zeroOf Tryd.prog 32 = some .nilFunc := by kernel_rfl
theorem sz33 : szOf Tryd.prog 33 = some 1 := by kernel_rfl
theorem by33 : byOf Tryd.prog 33 = some 8 := by kernel_rfl
theorem ag33 : aggOf Tryd.prog 33 = some false := by kernel_rfl
theorem zr33 : zeroOf Tryd.prog 33 = some .nilFunc := by kernel_rfl
theorem sz34 : szOf Tryd.prog 34 = some 1 := by kernel_rfl
theorem by34 : byOf Tryd.prog 34 = some 8 := by kernel_rfl
theorem ag34 : aggOf Tryd.prog 34 = some false := by kernel_rfl
theorem zr34 : zeroOf Tryd.prog 34 = some .nilFunc := by kernel_rfl
theorem sz35 : szOf Tryd.prog 35 = some 1 := by kernel_rfl
theorem by35 : byOf Tryd.prog 35 = some 8 := by kernel_rfl
theorem ag35 : aggOf Tryd.prog 35 = some false := by kernel_rfl
theorem zr35 : zeroOf Tryd.prog 35 = some .nilFunc := by kernel_rfl
theorem sz36 : szOf Tryd.prog 36 = some 1 := by kernel_rfl
theorem by36 : byOf Tryd.prog 36 = some 8 := by kernel_rfl
theorem ag36 : aggOf Tryd.prog 36 = some false := by kernel_rfl
theorem zr36 : zeroOf Tryd.prog 36 = some .nilFunc := by kernel_rfl
theorem sz37 : szOf Tryd.prog 37 = some 1 := by kernel_rfl
theorem by37 : byOf Tryd.prog 37 = some 8 := by kernel_rfl
theorem ag37 : aggOf Tryd.prog 37 = some false := by kernel_rfl
theorem zr37 : zeroOf Tryd.prog 37 = some .nilFunc := by kernel_rfl
theorem sz38 : szOf Tryd.prog 38 = some 1 := by kernel_rfl
theorem by38 : byOf Tryd.prog 38 = some 8 := by kernel_rfl
theorem ag38 : aggOf Tryd.prog 38 = some false := by kernel_rfl
theorem zr38 : zeroOf Tryd.prog 38 = some .nilFunc := by kernel_rfl
theorem sz39 : szOf Tryd.prog 39 = some 1 := by kernel_rfl
theorem by39 : byOf Tryd.prog 39 = some 8 := by kernel_rfl
theorem ag39 : aggOf Tryd.prog 39 = some false := by kernel_rfl
theorem zr39 : zeroOf Tryd.prog 39 = some .nilFunc := by kernel_rfl
theorem sz40 : szOf Tryd.prog 40 = some 1 := by kernel_rfl
theorem by40 : byOf Tryd.prog 40 = some 24 := by kernel_rfl
theorem ag40 : aggOf Tryd.prog 40 = some false := by kernel_rfl
theorem zr40 : zeroOf Tryd.prog 40 = some (.slice none 0 0) := by kernel_rfl
theorem sz41 : szOf Tryd.prog 41 = some 1 := by kernel_rfl
theorem by41 : byOf Tryd.prog 41 = some 24 := by kernel_rfl
theorem ag41 : aggOf Tryd.prog 41 = some false := by kernel_rfl
theorem zr41 : zeroOf Tryd.prog 41 = some (.slice none 0 0) := by kernel_rfl
theorem sz42 : szOf Tryd.prog 42 = some 1 := by kernel_rfl
theorem by42 : byOf Tryd.prog 42 = some 8 := by kernel_rfl
theorem ag42 : aggOf Tryd.prog 42 = some false := by kernel_rfl
theorem zr42 : zeroOf Tryd.prog 42 = some .nilFunc := by kernel_rfl
theorem sz43 : szOf Tryd.prog 43 = some 1 := by kernel_rfl
theorem by43 : byOf Tryd.prog 43 = some 8 := by kernel_rfl
theorem ag43 : aggOf Tryd.prog 43 = some false := by kernel_rfl
theorem zr43 : zeroOf Tryd.prog 43 = some .nilFunc := by kernel_rfl
theorem sz44 : szOf Tryd.prog 44 = some 1 := by kernel_rfl
theorem by44 : byOf Tryd.prog 44 = some 8 := by kernel_rfl
theorem ag44 : aggOf Tryd.prog 44 = some false := by kernel_rfl
theorem zr44 : zeroOf Tryd.prog 44 = some (.int .i64 0) := by kernel_rfl
theorem sz46 : szOf Tryd.prog 46 = some 1 := by kernel_rfl
theorem by46 : byOf Tryd.prog 46 = some 8 := by kernel_rfl
theorem ag46 : aggOf Tryd.prog 46 = some false := by kernel_rfl
theorem zr46 : zeroOf Tryd.prog 46 = some .nilFunc := by kernel_rfl
theorem sz48 : szOf Tryd.prog 48 = some 1 := by kernel_rfl
theorem by48 : byOf Tryd.prog 48 = some 8 := by kernel_rfl
theorem ag48 : aggOf Tryd.prog 48 = some false := by kernel_rfl
theorem zr48 : zeroOf Tryd.prog 48 = some .nilFunc := by kernel_rfl
theorem sz49 : szOf Tryd.prog 49 = some 1 := by kernel_rfl
theorem by49 : byOf Tryd.prog 49 = some 8 := by kernel_rfl
theorem ag49 : aggOf Tryd.prog 49 = some false := by kernel_rfl
theorem zr49 : zeroOf Tryd.prog 49 = some .nilFunc := by kernel_rfl
theorem sz50 : szOf Tryd.prog 50 = some 1 := by kernel_rfl
theorem by50 : byOf Tryd.prog 50 = some 8 := by kernel_rfl
theorem ag50 : aggOf Tryd.prog 50 = some false := by kernel_rfl
theorem zr50 : zeroOf Tryd.prog 50 = some .nilFunc := by kernel_rfl
theorem sz51 : szOf Tryd.prog 51 = some 1 := by kernel_rfl
theorem by51 : byOf Tryd.prog 51 = some 8 := by kernel_rfl
theorem ag51 : aggOf Tryd.prog 51 = some false := by kernel_rfl
theorem zr51 : zeroOf Tryd.prog 51 = some .nilFunc := by kernel_rfl
theorem sz52 : szOf Tryd.prog 52 = some 1 := by kernel_rfl
theorem by52 : byOf Tryd.prog 52 = some 8 := by kernel_rfl
theorem ag52 : aggOf Tryd.prog 52 = some false := by kernel_rfl
theorem zr52 : zeroOf Tryd.prog 52 = some .nilFunc := by kernel_rfl
theorem sz54 : szOf Tryd.prog 54 = some 1 := by kernel_rfl
theorem by54 : byOf Tryd.prog 54 = some 8 := by kernel_rfl
theorem ag54 : aggOf Tryd.prog 54 = some false := by kernel_rfl
theorem zr54 : zeroOf Tryd.prog 54 = some .nilFunc := by kernel_rfl
theorem sz55 : szOf Tryd.prog 55 = some 1 := by kernel_rfl
theorem by55 : byOf Tryd.prog 55 = some 8 := by kernel_rfl
theorem ag55 : aggOf Tryd.prog 55 = some false := by kernel_rfl
theorem zr55 : zeroOf Tryd.prog 55 = some .nilFunc := by kernel_rfl
theorem sz56 : szOf Tryd.prog 56 = some 1 := by kernel_rfl
theorem by56 : byOf Tryd.prog 56 = some 8 := by kernel_rfl
theorem ag56 : aggOf Tryd.prog 56 = some false := by kernel_rfl
theorem zr56 : zeroOf Tryd.prog 56 = some (.int .u64 0) := by kernel_rfl
theorem sz57 : szOf Tryd.prog 57 = some 1 := by kernel_rfl
theorem by57 : byOf Tryd.prog 57 = some 16 := by kernel_rfl
theorem ag57 : aggOf Tryd.prog 57 = some false := by kernel_rfl
theorem zr57 : zeroOf Tryd.prog 57 = some .nilIface := by kernel_rfl
theorem sz58 : szOf Tryd.prog 58 = some 1 := by kernel_rfl
theorem by58 : byOf Tryd.prog 58 = some 16 := by kernel_rfl
theorem ag58 : aggOf Tryd.prog 58 = some false := by kernel_rfl
theorem zr58 : zeroOf Tryd.prog 58 = some .nilIface := by kernel_rfl
theorem sz60 : szOf Tryd.prog 60 = some 1 := by kernel_rfl
theorem by60 : byOf Tryd.prog 60 = some 8 := by kernel_rfl
theorem ag60 : aggOf Tryd.prog 60 = some false := by kernel_rfl
theorem zr60 : zeroOf Tryd.prog 60 = some .nilFunc := by kernel_rfl
theorem sz61 : szOf Tryd.prog 61 = some 1 := by kernel_rfl
theorem by61 : byOf Tryd.prog 61 = some 8 := by kernel_rfl
theorem ag61 : aggOf Tryd.prog 61 = some false := by kernel_rfl
theorem zr61 : zeroOf Tryd.prog 61 = some .nilFunc := by kernel_rfl
theorem sz62 : szOf Tryd.prog 62 = some 1 := by kernel_rfl
theorem by62 : byOf Tryd.prog 62 = some 8 := by kernel_rfl
theorem ag62 : aggOf Tryd.prog 62 = some false := by kernel_rfl
theorem zr62 : zeroOf Tryd.prog 62 = some .nilFunc := by kernel_rfl
theorem sz63 : szOf Tryd.prog 63 = some 1 := by kernel_rfl
theorem by63 : byOf Tryd.prog 63 = some 8 := by kernel_rfl
theorem ag63 : aggOf Tryd.prog 63 = some false := by kernel_rfl
theorem zr63 : zeroOf Tryd.prog 63 = some .nilFunc := by kernel_rfl
theorem sz64 : szOf Tryd.prog 64 = some 1 := by kernel_rfl
theorem by64 : byOf Tryd.prog 64 = some 8 := by kernel_rfl
theorem ag64 : aggOf Tryd.prog 64 = some false := by kernel_rfl
theorem zr64 : zeroOf Tryd.prog 64 = some .nilFunc := by kernel_rfl
theorem sz65 : szOf Tryd.prog 65 = some 1 := by kernel_rfl
theorem by65 : byOf Tryd.prog 65 = some 24 := by kernel_rfl
theorem ag65 : aggOf Tryd.prog 65 = some false := by kernel_rfl
theorem zr65 : zeroOf Tryd.prog 65 = some (.slice none 0 0) := by kernel_rfl
theorem sz66 : szOf Tryd.prog 66 = some 1 := by kernel_rfl
theorem by66 : byOf Tryd.prog 66 = some 8 := by kernel_rfl
theorem ag66 : aggOf Tryd.prog 66 = some false := by kernel_rfl
theorem zr66 : zeroOf Tryd.prog 66 = some .nilFunc := by kernel_rfl
theorem sz68 : szOf Tryd.prog 68 = some 1 := by kernel_rfl
theorem by68 : byOf Tryd.prog 68 = some 8 := by kernel_rfl
theorem ag68 : aggOf Tryd.prog 68 = some false := by kernel_rfl
theorem zr68 : zeroOf Tryd.prog 68 = some .nilFunc := by kernel_rfl
theorem sz69 : szOf Tryd.prog 69 = some 1 := by kernel_rfl
theorem by69 : byOf Tryd.prog 69 = some 8 := by kernel_rfl
theorem ag69 : aggOf Tryd.prog 69 = some false := by kernel_rfl
theorem zr69 : zeroOf Tryd.prog 69 = some .nilFunc := by kernel_rfl
theorem sz70 : szOf Tryd.prog 70 = some 1 := by kernel_rfl
theorem by70 : byOf Tryd.prog 70 = some 8 := by kernel_rfl
theorem ag70 : aggOf Tryd.prog 70 = some false := by kernel_rfl
theorem zr70 : zeroOf Tryd.prog 70 = some (.pointer none) := by kernel_rfl
theorem sz71 : szOf Tryd.prog 71 = some 1 := by kernel_rfl
theorem by71 : byOf Tryd.prog 71 = some 8 := by kernel_rfl
theorem ag71 : aggOf Tryd.prog 71 = some false := by kernel_rfl
theorem zr71 : zeroOf Tryd.prog 71 = some .nilFunc := by kernel_rfl
theorem sz72 : szOf Tryd.prog 72 = some 1 := by kernel_rfl
theorem by72 : byOf Tryd.prog 72 = some 8 := by kernel_rfl
theorem ag72 : aggOf Tryd.prog 72 = some false := by kernel_rfl
theorem zr72 : zeroOf Tryd.prog 72 = some .nilFunc := by kernel_rfl
theorem sz73 : szOf Tryd.prog 73 = some 1 := by kernel_rfl
theorem by73 : byOf Tryd.prog 73 = some 8 := by kernel_rfl
theorem ag73 : aggOf Tryd.prog 73 = some false := by kernel_rfl
theorem zr73 : zeroOf Tryd.prog 73 = some .nilFunc := by kernel_rfl
theorem sz74 : szOf Tryd.prog 74 = some 24 := by kernel_rfl
theorem by74 : byOf Tryd.prog 74 = some 24 := by kernel_rfl
theorem ag74 : aggOf Tryd.prog 74 = some true := by kernel_rfl
theorem eg74 : Tryd.prog.eqGuardType Tryd.prog.depth 74 = false := by kernel_rfl
theorem zr74 : zeroOf Tryd.prog 74 = some (.agg #[(.int .u8 0), (.int .u8 0), (.int .u8 0), (.int .u8 0), (.int .u8 0), (.int .u8 0), (.int .u8 0), (.int .u8 0), (.int .u8 0), (.int .u8 0), (.int .u8 0), (.int .u8 0), (.int .u8 0), (.int .u8 0), (.int .u8 0), (.int .u8 0), (.int .u8 0), (.int .u8 0), (.int .u8 0), (.int .u8 0), (.int .u8 0), (.int .u8 0), (.int .u8 0), (.int .u8 0)]) := by kernel_rfl
theorem sz75 : szOf Tryd.prog 75 = some 1 := by kernel_rfl
theorem by75 : byOf Tryd.prog 75 = some 8 := by kernel_rfl
theorem ag75 : aggOf Tryd.prog 75 = some false := by kernel_rfl
theorem zr75 : zeroOf Tryd.prog 75 = some .nilFunc := by kernel_rfl
theorem sz76 : szOf Tryd.prog 76 = some 1 := by kernel_rfl
theorem by76 : byOf Tryd.prog 76 = some 8 := by kernel_rfl
theorem ag76 : aggOf Tryd.prog 76 = some false := by kernel_rfl
theorem zr76 : zeroOf Tryd.prog 76 = some .nilFunc := by kernel_rfl
theorem sz78 : szOf Tryd.prog 78 = some 1 := by kernel_rfl
theorem by78 : byOf Tryd.prog 78 = some 8 := by kernel_rfl
theorem ag78 : aggOf Tryd.prog 78 = some false := by kernel_rfl
theorem zr78 : zeroOf Tryd.prog 78 = some .nilFunc := by kernel_rfl
theorem sz79 : szOf Tryd.prog 79 = some 1 := by kernel_rfl
theorem by79 : byOf Tryd.prog 79 = some 8 := by kernel_rfl
theorem ag79 : aggOf Tryd.prog 79 = some false := by kernel_rfl
theorem zr79 : zeroOf Tryd.prog 79 = some .nilFunc := by kernel_rfl
theorem sz80 : szOf Tryd.prog 80 = some 1 := by kernel_rfl
theorem by80 : byOf Tryd.prog 80 = some 8 := by kernel_rfl
theorem ag80 : aggOf Tryd.prog 80 = some false := by kernel_rfl
theorem zr80 : zeroOf Tryd.prog 80 = some .nilFunc := by kernel_rfl
theorem sz81 : szOf Tryd.prog 81 = some 1 := by kernel_rfl
theorem by81 : byOf Tryd.prog 81 = some 8 := by kernel_rfl
theorem ag81 : aggOf Tryd.prog 81 = some false := by kernel_rfl
theorem zr81 : zeroOf Tryd.prog 81 = some .nilFunc := by kernel_rfl
theorem sz82 : szOf Tryd.prog 82 = some 3 := by kernel_rfl
theorem by82 : byOf Tryd.prog 82 = some 48 := by kernel_rfl
theorem ag82 : aggOf Tryd.prog 82 = some true := by kernel_rfl
theorem si82 : Tryd.prog.stoodInHeld 82 = false := by kernel_rfl
theorem zr82 : zeroOf Tryd.prog 82 = some (.agg #[(.string ByteArray.empty), (.string ByteArray.empty), .nilIface]) := by kernel_rfl
theorem sz83 : szOf Tryd.prog 83 = some 3 := by kernel_rfl
theorem by83 : byOf Tryd.prog 83 = some 48 := by kernel_rfl
theorem ag83 : aggOf Tryd.prog 83 = some true := by kernel_rfl
theorem si83 : Tryd.prog.stoodInHeld 83 = false := by kernel_rfl
theorem zr83 : zeroOf Tryd.prog 83 = some (.agg #[(.string ByteArray.empty), (.string ByteArray.empty), .nilIface]) := by kernel_rfl
theorem sz84 : szOf Tryd.prog 84 = some 1 := by kernel_rfl
theorem by84 : byOf Tryd.prog 84 = some 8 := by kernel_rfl
theorem ag84 : aggOf Tryd.prog 84 = some false := by kernel_rfl
theorem zr84 : zeroOf Tryd.prog 84 = some .nilFunc := by kernel_rfl
theorem sz85 : szOf Tryd.prog 85 = some 1 := by kernel_rfl
theorem by85 : byOf Tryd.prog 85 = some 8 := by kernel_rfl
theorem ag85 : aggOf Tryd.prog 85 = some false := by kernel_rfl
theorem zr85 : zeroOf Tryd.prog 85 = some .nilFunc := by kernel_rfl
theorem sz86 : szOf Tryd.prog 86 = some 20 := by kernel_rfl
theorem by86 : byOf Tryd.prog 86 = some 160 := by kernel_rfl
theorem ag86 : aggOf Tryd.prog 86 = some true := by kernel_rfl
theorem eg86 : Tryd.prog.eqGuardType Tryd.prog.depth 86 = false := by kernel_rfl
theorem zr86 : zeroOf Tryd.prog 86 = some (.agg #[(.int .u64 0), (.int .u64 0), (.int .u64 0), (.int .u64 0), (.int .u64 0), (.int .u64 0), (.int .u64 0), (.int .u64 0), (.int .u64 0), (.int .u64 0), (.int .u64 0), (.int .u64 0), (.int .u64 0), (.int .u64 0), (.int .u64 0), (.int .u64 0), (.int .u64 0), (.int .u64 0), (.int .u64 0), (.int .u64 0)]) := by kernel_rfl
theorem sz87 : szOf Tryd.prog 87 = some 1 := by kernel_rfl
theorem by87 : byOf Tryd.prog 87 = some 4 := by kernel_rfl
theorem ag87 : aggOf Tryd.prog 87 = some false := by kernel_rfl
theorem zr87 : zeroOf Tryd.prog 87 = some (.int .u32 0) := by kernel_rfl
theorem sz88 : szOf Tryd.prog 88 = some 65 := by kernel_rfl
theorem by88 : byOf Tryd.prog 88 = some 65 := by kernel_rfl
theorem ag88 : aggOf Tryd.prog 88 = some true := by kernel_rfl
theorem eg88 : Tryd.prog.eqGuardType Tryd.prog.depth 88 = false := by kernel_rfl
theorem zr88 : zeroOf Tryd.prog 88 = some (.agg #[(.int .u8 0), (.int .u8 0), (.int .u8 0), (.int .u8 0), (.int .u8 0), (.int .u8 0), (.int .u8 0), (.int .u8 0), (.int .u8 0), (.int .u8 0), (.int .u8 0), (.int .u8 0), (.int .u8 0), (.int .u8 0), (.int .u8 0), (.int .u8 0), (.int .u8 0), (.int .u8 0), (.int .u8 0), (.int .u8 0), (.int .u8 0), (.int .u8 0), (.int .u8 0), (.int .u8 0), (.int .u8 0), (.int .u8 0), (.int .u8 0), (.int .u8 0), (.int .u8 0), (.int .u8 0), (.int .u8 0), (.int .u8 0), (.int .u8 0), (.int .u8 0), (.int .u8 0), (.int .u8 0), (.int .u8 0), (.int .u8 0), (.int .u8 0), (.int .u8 0), (.int .u8 0), (.int .u8 0), (.int .u8 0), (.int .u8 0), (.int .u8 0), (.int .u8 0), (.int .u8 0), (.int .u8 0), (.int .u8 0), (.int .u8 0), (.int .u8 0), (.int .u8 0), (.int .u8 0), (.int .u8 0), (.int .u8 0), (.int .u8 0), (.int .u8 0), (.int .u8 0), (.int .u8 0), (.int .u8 0), (.int .u8 0), (.int .u8 0), (.int .u8 0), (.int .u8 0), (.int .u8 0)]) := by kernel_rfl
theorem sz89 : szOf Tryd.prog 89 = some 1 := by kernel_rfl
theorem by89 : byOf Tryd.prog 89 = some 8 := by kernel_rfl
theorem ag89 : aggOf Tryd.prog 89 = some false := by kernel_rfl
theorem zr89 : zeroOf Tryd.prog 89 = some .nilFunc := by kernel_rfl
theorem sz90 : szOf Tryd.prog 90 = some 1 := by kernel_rfl
theorem by90 : byOf Tryd.prog 90 = some 8 := by kernel_rfl
theorem ag90 : aggOf Tryd.prog 90 = some false := by kernel_rfl
theorem zr90 : zeroOf Tryd.prog 90 = some .nilFunc := by kernel_rfl
theorem sz92 : szOf Tryd.prog 92 = some 1 := by kernel_rfl
theorem by92 : byOf Tryd.prog 92 = some 8 := by kernel_rfl
theorem ag92 : aggOf Tryd.prog 92 = some false := by kernel_rfl
theorem zr92 : zeroOf Tryd.prog 92 = some .nilFunc := by kernel_rfl
theorem sz93 : szOf Tryd.prog 93 = some 1 := by kernel_rfl
theorem by93 : byOf Tryd.prog 93 = some 8 := by kernel_rfl
theorem ag93 : aggOf Tryd.prog 93 = some false := by kernel_rfl
theorem zr93 : zeroOf Tryd.prog 93 = some (.pointer none) := by kernel_rfl
theorem sz94 : szOf Tryd.prog 94 = some 1 := by kernel_rfl
theorem by94 : byOf Tryd.prog 94 = some 8 := by kernel_rfl
theorem ag94 : aggOf Tryd.prog 94 = some false := by kernel_rfl
theorem zr94 : zeroOf Tryd.prog 94 = some (.pointer none) := by kernel_rfl
theorem sz95 : szOf Tryd.prog 95 = some 1 := by kernel_rfl
theorem by95 : byOf Tryd.prog 95 = some 16 := by kernel_rfl
theorem ag95 : aggOf Tryd.prog 95 = some true := by kernel_rfl
theorem eg95 : Tryd.prog.eqGuardType Tryd.prog.depth 95 = false := by kernel_rfl
theorem si95 : Tryd.prog.stoodInHeld 95 = false := by kernel_rfl
theorem zr95 : zeroOf Tryd.prog 95 = some (.agg #[(.string ByteArray.empty)]) := by kernel_rfl
theorem sz96 : szOf Tryd.prog 96 = some 1 := by kernel_rfl
theorem by96 : byOf Tryd.prog 96 = some 16 := by kernel_rfl
theorem ag96 : aggOf Tryd.prog 96 = some true := by kernel_rfl
theorem eg96 : Tryd.prog.eqGuardType Tryd.prog.depth 96 = false := by kernel_rfl
theorem si96 : Tryd.prog.stoodInHeld 96 = false := by kernel_rfl
theorem zr96 : zeroOf Tryd.prog 96 = some (.agg #[(.string ByteArray.empty)]) := by kernel_rfl
theorem sz97 : szOf Tryd.prog 97 = some 1 := by kernel_rfl
theorem by97 : byOf Tryd.prog 97 = some 8 := by kernel_rfl
theorem ag97 : aggOf Tryd.prog 97 = some false := by kernel_rfl
theorem zr97 : zeroOf Tryd.prog 97 = some .nilFunc := by kernel_rfl
theorem sz98 : szOf Tryd.prog 98 = some 32 := by kernel_rfl
theorem by98 : byOf Tryd.prog 98 = some 32 := by kernel_rfl
theorem ag98 : aggOf Tryd.prog 98 = some true := by kernel_rfl
theorem eg98 : Tryd.prog.eqGuardType Tryd.prog.depth 98 = false := by kernel_rfl
theorem zr98 : zeroOf Tryd.prog 98 = some (.agg #[(.int .u8 0), (.int .u8 0), (.int .u8 0), (.int .u8 0), (.int .u8 0), (.int .u8 0), (.int .u8 0), (.int .u8 0), (.int .u8 0), (.int .u8 0), (.int .u8 0), (.int .u8 0), (.int .u8 0), (.int .u8 0), (.int .u8 0), (.int .u8 0), (.int .u8 0), (.int .u8 0), (.int .u8 0), (.int .u8 0), (.int .u8 0), (.int .u8 0), (.int .u8 0), (.int .u8 0), (.int .u8 0), (.int .u8 0), (.int .u8 0), (.int .u8 0), (.int .u8 0), (.int .u8 0), (.int .u8 0), (.int .u8 0)]) := by kernel_rfl
theorem sz99 : szOf Tryd.prog 99 = some 64 := by kernel_rfl
theorem by99 : byOf Tryd.prog 99 = some 64 := by kernel_rfl
theorem ag99 : aggOf Tryd.prog 99 = some true := by kernel_rfl
theorem eg99 : Tryd.prog.eqGuardType Tryd.prog.depth 99 = false := by kernel_rfl
theorem zr99 : zeroOf Tryd.prog 99 = some (.agg #[(.int .u8 0), (.int .u8 0), (.int .u8 0), (.int .u8 0), (.int .u8 0), (.int .u8 0), (.int .u8 0), (.int .u8 0), (.int .u8 0), (.int .u8 0), (.int .u8 0), (.int .u8 0), (.int .u8 0), (.int .u8 0), (.int .u8 0), (.int .u8 0), (.int .u8 0), (.int .u8 0), (.int .u8 0), (.int .u8 0), (.int .u8 0), (.int .u8 0), (.int .u8 0), (.int .u8 0), (.int .u8 0), (.int .u8 0), (.int .u8 0), (.int .u8 0), (.int .u8 0), (.int .u8 0), (.int .u8 0), (.int .u8 0), (.int .u8 0), (.int .u8 0), (.int .u8 0), (.int .u8 0), (.int .u8 0), (.int .u8 0), (.int .u8 0), (.int .u8 0), (.int .u8 0), (.int .u8 0), (.int .u8 0), (.int .u8 0), (.int .u8 0), (.int .u8 0), (.int .u8 0), (.int .u8 0), (.int .u8 0), (.int .u8 0), (.int .u8 0), (.int .u8 0), (.int .u8 0), (.int .u8 0), (.int .u8 0), (.int .u8 0), (.int .u8 0), (.int .u8 0), (.int .u8 0), (.int .u8 0), (.int .u8 0), (.int .u8 0), (.int .u8 0), (.int .u8 0)]) := by kernel_rfl
theorem sz100 : szOf Tryd.prog 100 = some 1 := by kernel_rfl
theorem by100 : byOf Tryd.prog 100 = some 8 := by kernel_rfl
theorem ag100 : aggOf Tryd.prog 100 = some false := by kernel_rfl
theorem zr100 : zeroOf Tryd.prog 100 = some .nilFunc := by kernel_rfl
theorem sz103 : szOf Tryd.prog 103 = some 0 := by kernel_rfl
theorem by103 : byOf Tryd.prog 103 = some 0 := by kernel_rfl
theorem ag103 : aggOf Tryd.prog 103 = some true := by kernel_rfl
theorem eg103 : Tryd.prog.eqGuardType Tryd.prog.depth 103 = false := by kernel_rfl
theorem zr103 : zeroOf Tryd.prog 103 = some (.agg #[]) := by kernel_rfl
theorem sz106 : szOf Tryd.prog 106 = some 1 := by kernel_rfl
theorem by106 : byOf Tryd.prog 106 = some 8 := by kernel_rfl
theorem ag106 : aggOf Tryd.prog 106 = some false := by kernel_rfl
theorem zr106 : zeroOf Tryd.prog 106 = some .nilFunc := by kernel_rfl
theorem sz109 : szOf Tryd.prog 109 = some 1 := by kernel_rfl
theorem by109 : byOf Tryd.prog 109 = some 8 := by kernel_rfl
theorem ag109 : aggOf Tryd.prog 109 = some false := by kernel_rfl
theorem zr109 : zeroOf Tryd.prog 109 = some .nilFunc := by kernel_rfl
theorem sz114 : szOf Tryd.prog 114 = some 1 := by kernel_rfl
theorem by114 : byOf Tryd.prog 114 = some 8 := by kernel_rfl
theorem ag114 : aggOf Tryd.prog 114 = some false := by kernel_rfl
theorem zr114 : zeroOf Tryd.prog 114 = some (.pointer none) := by kernel_rfl
theorem co5 : Tryd.prog.cellsOf 5 = 1 := by kernel_rfl
attribute [push_cast] sz1 by1 ag1 zr1 sz2 by2 ag2 zr2 sz3 by3 ag3 zr3 sz4 by4 ag4 zr4 sz5 by5 ag5 zr5 sz9 by9 ag9 zr9 sz12 by12 ag12 zr12 sz15 by15 ag15 zr15 sz16 by16 ag16 zr16 sz17 by17 ag17 zr17 sz20 by20 ag20 zr20 sz21 by21 ag21 zr21 sz22 by22 ag22 zr22 sz23 by23 ag23 zr23 sz24 by24 ag24 zr24 sz25 by25 ag25 zr25 sz26 by26 ag26 zr26 sz27 by27 ag27 zr27 sz28 by28 ag28 zr28 sz29 by29 ag29 zr29 sz30 by30 ag30 zr30 sz31 by31 ag31 zr31 sz32 by32 ag32 zr32 sz33 by33 ag33 zr33 sz34 by34 ag34 zr34 sz35 by35 ag35 zr35 sz36 by36 ag36 zr36 sz37 by37 ag37 zr37 sz38 by38 ag38 zr38 sz39 by39 ag39 zr39 sz40 by40 ag40 zr40 sz41 by41 ag41 zr41 sz42 by42 ag42 zr42 sz43 by43 ag43 zr43 sz44 by44 ag44 zr44 sz46 by46 ag46 zr46 sz48 by48 ag48 zr48 sz49 by49 ag49 zr49 sz50 by50 ag50 zr50 sz51 by51 ag51 zr51 sz52 by52 ag52 zr52 sz54 by54 ag54 zr54 sz55 by55 ag55 zr55 sz56 by56 ag56 zr56 sz57 by57 ag57 zr57 sz58 by58 ag58 zr58 sz60 by60 ag60 zr60 sz61 by61 ag61 zr61 sz62 by62 ag62 zr62 sz63 by63 ag63 zr63 sz64 by64 ag64 zr64 sz65 by65 ag65 zr65 sz66 by66 ag66 zr66 sz68 by68 ag68 zr68 sz69 by69 ag69 zr69 sz70 by70 ag70 zr70 sz71 by71 ag71 zr71 sz72 by72 ag72 zr72 sz73 by73 ag73 zr73 sz74 by74 ag74 eg74 zr74 sz75 by75 ag75 zr75 sz76 by76 ag76 zr76 sz78 by78 ag78 zr78 sz79 by79 ag79 zr79 sz80 by80 ag80 zr80 sz81 by81 ag81 zr81 sz82 by82 ag82 si82 zr82 sz83 by83 ag83 si83 zr83 sz84 by84 ag84 zr84 sz85 by85 ag85 zr85 sz86 by86 ag86 eg86 zr86 sz87 by87 ag87 zr87 sz88 by88 ag88 eg88 zr88 sz89 by89 ag89 zr89 sz90 by90 ag90 zr90 sz92 by92 ag92 zr92 sz93 by93 ag93 zr93 sz94 by94 ag94 zr94 sz95 by95 ag95 eg95 si95 zr95 sz96 by96 ag96 eg96 si96 zr96 sz97 by97 ag97 zr97 sz98 by98 ag98 eg98 zr98 sz99 by99 ag99 eg99 zr99 sz100 by100 ag100 zr100 sz103 by103 ag103 eg103 zr103 sz106 by106 ag106 zr106 sz109 by109 ag109 zr109 sz114 by114 ag114 zr114 co5 Tryd.underlying0 Tryd.underlying1 Tryd.underlying2 Tryd.underlying3 Tryd.underlying4 Tryd.underlying5 Tryd.underlying6 Tryd.underlying7 Tryd.underlying8 Tryd.underlying9 Tryd.underlying10 Tryd.underlying11 Tryd.underlying12 Tryd.underlying13 Tryd.underlying14 Tryd.underlying15 Tryd.underlying16 Tryd.underlying17 Tryd.underlying18 Tryd.underlying19 Tryd.underlying20 Tryd.underlying21 Tryd.underlying22 Tryd.underlying23 Tryd.underlying24 Tryd.underlying25 Tryd.underlying26 Tryd.underlying27 Tryd.underlying28 Tryd.underlying29 Tryd.underlying30 Tryd.underlying31 Tryd.underlying32 Tryd.underlying33 Tryd.underlying34 Tryd.underlying35 Tryd.underlying36 Tryd.underlying37 Tryd.underlying38 Tryd.underlying39 Tryd.underlying40 Tryd.underlying41 Tryd.underlying42 Tryd.underlying43 Tryd.underlying44 Tryd.underlying45 Tryd.underlying46 Tryd.underlying47 Tryd.underlying48 Tryd.underlying49 Tryd.underlying50 Tryd.underlying51 Tryd.underlying52 Tryd.underlying53 Tryd.underlying54 Tryd.underlying55 Tryd.underlying56 Tryd.underlying57 Tryd.underlying58 Tryd.underlying59 Tryd.underlying60 Tryd.underlying61 Tryd.underlying62 Tryd.underlying63 Tryd.underlying64 Tryd.underlying65 Tryd.underlying66 Tryd.underlying67 Tryd.underlying68 Tryd.underlying69 Tryd.underlying70 Tryd.underlying71 Tryd.underlying72 Tryd.underlying73 Tryd.underlying74 Tryd.underlying75 Tryd.underlying76 Tryd.underlying77 Tryd.underlying78 Tryd.underlying79 Tryd.underlying80 Tryd.underlying81 Tryd.underlying82 Tryd.underlying83 Tryd.underlying84 Tryd.underlying85 Tryd.underlying86 Tryd.underlying87 Tryd.underlying88 Tryd.underlying89 Tryd.underlying90 Tryd.underlying91 Tryd.underlying92 Tryd.underlying93 Tryd.underlying94 Tryd.underlying95 Tryd.underlying96 Tryd.underlying97 Tryd.underlying98 Tryd.underlying99 Tryd.underlying100 Tryd.underlying101 Tryd.underlying102 Tryd.underlying103 Tryd.underlying104 Tryd.underlying105 Tryd.underlying106 Tryd.underlying107 Tryd.underlying108 Tryd.underlying109 Tryd.underlying110 Tryd.underlying111 Tryd.underlying112 Tryd.underlying113 Tryd.underlying114
end Go.Proofs.YtlhppfdokgeijaaDoor

/-
  ENGINE, PART O: a machine that runs code over abstract states, and that what it says holds; for calls whose arguments are known through and through.
-/
set_option linter.unusedVariables false
set_option linter.unusedSimpArgs false
namespace Go.Eng
open Go

deriving instance DecidableEq for CV
deriving instance DecidableEq for BK
deriving instance DecidableEq for Blk

def preB : AMem → AMem → Bool
  | [], _ => true
  | a :: xa, b :: bs => decide (a = b) && preB xa bs
  | _ :: _, [] => false
theorem preB_ok : ∀ {m m' : AMem}, preB m m' = true → ∃ x, m' = m ++ x
  | [], m', _ => ⟨m', rfl⟩
  | a :: xa, b :: bs, h => by
    simp only [preB, Bool.and_eq_true, decide_eq_true_eq] at h
    obtain ⟨rfl, h⟩ := h
    obtain ⟨x, rfl⟩ := preB_ok h
    exact ⟨x, rfl⟩
  | _ :: _, [], h => by cases h

abbrev Caller := FuncId → List AV → AMem → Option (AV × AMem)

section
variable (P : Program) (call : Caller)
def rOps (ops : Array Oper) : List Oper → Tm → AMem → Option (Tm × AMem)
  | [], tm, mem => some (tm, mem)
  | o :: rest, tm, mem =>
    match wantedA ops o tm with
    | some true =>
      match o.op with
      | .store t x y => match storeA P t (opd tm x) (opd tm y) mem with
        | some mem' => rOps ops rest (putO o.dst (.one .und) tm) mem'
        | none => none
      | .call ⟨.value f, args, _⟩ => match opd tm f with
        | .one (.fn g cs) => match call g (args.toList.map (opd tm) ++ capsAV cs) mem with
          | some (ret, mem') => rOps ops rest (putO o.dst ret tm) mem'
          | none => none
        | _ => none
      | op => match evVal P (opd tm) mem op with
        | some (x, mem') => rOps ops rest (putO o.dst x tm) mem'
        | none => none
    | some false => rOps ops rest (putO o.dst (.one .und) tm) mem
    | none => none

def sameAt (r : Nat) (b : Blk) : List AMem → Bool
  | [] => true
  | M :: Ms => decide (M[r]? = some b) && sameAt r b Ms
def watchB (Ms : List AMem) : List (Nat × Nat) → Bool
  | [] => true
  | (lo, r) :: W => (match Ms.drop lo with
    | [] => true
    | M :: Ms' => match M[r]? with
      | some b => sameAt r b Ms'
      | none => false) && watchB Ms W
def upB (A : Option AMem) (cur mem' : AMem) : Bool :=
  match A with
  | some B => preB B cur && preB B mem'
  | none => false

def rOpsD (ops : Array Oper) : Pl → Tm → AMem → List AMem → List (Nat × Nat) → Option (Tm × AMem)
  | [], tm, cur, hist, ws => if watchB hist ws = true then some (tm, cur) else none
  | (o, p) :: rest, tm, cur, hist, ws =>
    match wantedA ops o tm with
    | some true =>
      match p with
      | .val => match evVal P (opd tm) [] o.op with
        | some (x, []) => rOpsD ops rest (putO o.dst x tm) cur hist ws
        | _ => none
      | .rd lo => match o.op with
        | .load t y => match hist[lo]? with
          | some M => match loadA P t (opd tm y) M with
            | some x => rOpsD ops rest (putO o.dst x tm) cur hist ws
            | none => none
          | none => none
        | _ => none
      | .rw lo => match o.op with
        | .load t y => match opd tm y, hist[lo]? with
          | .one (.ptr r ver off), some M => match loadA P t (.one (.ptr r ver off)) M with
            | some x => rOpsD ops rest (putO o.dst x tm) cur hist ((lo, r) :: ws)
            | none => none
          | _, _ => none
        | _ => none
      | .ext => match o.op with
        | .store _ _ _ => none
        | .call ⟨.value f, args, _⟩ => match opd tm f with
          | .one (.fn g cs) => match call g (args.toList.map (opd tm) ++ capsAV cs) cur with
            | some (ret, mem') => if preB cur mem' = true then rOpsD ops rest (putO o.dst ret tm) mem' (hist ++ [mem']) ws else none
            | none => none
          | _ => none
        | op => match evVal P (opd tm) cur op with
          | some (x, mem') => if preB cur mem' = true then rOpsD ops rest (putO o.dst x tm) mem' (hist ++ [mem']) ws else none
          | none => none
      | .up q => match evVal P (opd tm) cur o.op with
        | some (x, mem') => if upB hist[q]? cur mem' = true then rOpsD ops rest (putO o.dst x tm) mem' (hist ++ [mem']) ws else none
        | none => none
      | .fl => match o.op, o.guard with
        | .alloc t, none => match zeroOf P t with
          | some z => rOpsD ops rest (putO o.dst (.one (.ptr cur.length 0 0)) tm) (cur ++ [⟨.fix, t, 0, 0, z.cells.toList.map cellOf⟩]) (hist ++ [cur ++ [⟨.fix, t, 0, 0, z.cells.toList.map cellOf⟩]]) ws
          | none => none
        | _, _ => none
      | .wr => match o.op with
        | .store t x y => match storeA P t (opd tm x) (opd tm y) cur with
          | some mem' => rOpsD ops rest (putO o.dst (.one .und) tm) mem' (hist ++ [mem']) ws
          | none => none
        | .call ⟨.value f, args, _⟩ => match opd tm f with
          | .one (.fn g cs) => match call g (args.toList.map (opd tm) ++ capsAV cs) cur with
            | some (ret, mem') => rOpsD ops rest (putO o.dst ret tm) mem' (hist ++ [mem']) ws
            | none => none
          | _ => none
        | op => match evVal P (opd tm) cur op with
          | some (x, mem') => rOpsD ops rest (putO o.dst x tm) mem' (hist ++ [mem']) ws
          | none => none
    | some false => rOpsD ops rest (putO o.dst (.one .und) tm) cur (if p.chain then hist ++ [cur] else hist) ws
    | none => none

def rLoop (c : Tm → AMem → Option (Exit × Tm × AMem)) : Nat → Tm → AMem → Option (Exit × Tm × AMem)
  | 0, _, _ => none
  | n + 1, tm, mem => match c tm mem with
    | some (.normal, tm', mem') => rLoop c n tm' mem'
    | r => r

variable (pls : Nat → List Plan) (nt L : Nat)
def rCode : Code → Tm → AMem → Option (Exit × Tm × AMem)
  | .skip, tm, mem => some (.normal, tm, mem)
  | .ret, tm, mem => some (.ret, tm, mem)
  | .exit id, tm, mem => some (.exit id, tm, mem)
  | .seq x y, tm, mem => match rCode x tm mem with
    | some (.normal, tm', mem') => rCode y tm' mem'
    | r => r
  | .block id c, tm, mem => match rCode c tm mem with
    | some (.exit id', tm', mem') => if id' = id then some (.normal, tm', mem') else some (.exit id', tm', mem')
    | r => r
  | .cond c x y, tm, mem => match opd tm c with
    | .one (.bool true) => rCode x tm mem
    | .one (.bool false) => rCode y tm mem
    | _ => none
  | .loop c, tm, mem => rLoop (rCode c) L tm mem
  | .region id ops false, tm, mem => if ops.toList.all (dstOk nt) = true then (rOps P call ops ops.toList tm mem).map fun x => (.normal, x.1, x.2) else none
  | .region id ops true, tm, mem => if (pls id).length = ops.toList.length ∧ planOk nt (ops.toList.zip (pls id)) = true then
      (rOpsD P call ops (ops.toList.zip (pls id)) tm mem [mem] []).map fun x => (.normal, x.1, x.2) else none
  | _, _, _ => none
end

def rFunc (P : Program) (pls : Nat → Nat → List Plan) (L : Nat) : Nat → Caller
  | 0, _, _, _ => none
  | n + 1, g, args, mem => match P.funcs[g]? with
    | some fn => match fn.body with
      | some c => if (fn.name == "runtime.NumGoroutine") = false then
          match rCode P (rFunc P pls L n) (pls g) fn.ntmps L c (enterTm 0 args) mem with
          | some (.normal, tm, m) => (resA P fn.results.toList tm m).map fun x => (x, m)
          | some (.ret, tm, m) => (resA P fn.results.toList tm m).map fun x => (x, m)
          | _ => none
        else none
      | none => none
    | none => none

def CallOk (P : Program) (call : Caller) : Prop := ∀ g args mem ret mem', call g args mem = some (ret, mem') → Ctr P g args mem ret mem'

section
variable {P : Program} {call : Caller}
theorem rOps_ok (hc : CallOk P call) {ops : Array Oper} : ∀ (l : List Oper) (tm : Tm) (mem : AMem) (tm' : Tm) (mem' : AMem) (K : Tm → AMem → Prop), rOps P call ops l tm mem = some (tm', mem') → K tm' mem' → AOps P ops l tm mem K
  | [], tm, mem, tm', mem', K, h, hk => by
    simp only [rOps, Option.some.injEq, Prod.mk.injEq] at h
    obtain ⟨rfl, rfl⟩ := h; exact hk
  | o :: rest, tm, mem, tm', mem', K, h, hk => by
    rw [rOps] at h
    rw [AOps]
    split at h
    · rename_i hw
      rw [hw]
      simp only
      split at h
      · rename_i t x y hop
        split at h
        · rename_i m1 hs
          rw [hop]; simp only [hs]
          exact rOps_ok hc rest _ _ _ _ K h hk
        · cases h
      · rename_i f args ts hop
        split at h
        · rename_i g cs hf
          split at h
          · rename_i ret m1 hcall
            rw [hop]; simp only [hf]
            exact ⟨ret, m1, hc _ _ _ _ _ hcall, rOps_ok hc rest _ _ _ _ K h hk⟩
          · cases h
        · cases h
      · rename_i h1 h2
        split at h
        · rename_i x m1 hv
          split
          · rename_i t x y hop; exact absurd hop (h1 t x y)
          · rename_i f args ts hop; exact absurd hop (h2 f args ts)
          · simp only [hv]
            exact rOps_ok hc rest _ _ _ _ K h hk
        · cases h
    · rename_i hw
      rw [hw]
      exact rOps_ok hc rest _ _ _ _ K h hk
    · cases h

theorem sameAt_ok {r : Nat} {b : Blk} : ∀ {Ms : List AMem}, sameAt r b Ms = true → allAt r b Ms
  | [], _ => trivial
  | M :: Ms, h => by
    simp only [sameAt, Bool.and_eq_true, decide_eq_true_eq] at h
    exact ⟨h.1, sameAt_ok h.2⟩
theorem watchB_ok {Ms : List AMem} : ∀ {W : List (Nat × Nat)}, watchB Ms W = true → watchS Ms W
  | [], _ => trivial
  | (lo, r) :: W, h => by
    simp only [watchB, Bool.and_eq_true] at h
    refine ⟨?_, watchB_ok h.2⟩
    have h1 := h.1
    split
    · trivial
    · rename_i M Ms' hd
      rw [hd] at h1
      simp only at h1
      split
      · rename_i b hm; rw [hm] at h1; exact sameAt_ok h1
      · rename_i hm; rw [hm] at h1; cases h1
theorem upB_ok {A : Option AMem} {cur mem' : AMem} (h : upB A cur mem' = true) : ∃ B x0 y0, A = some B ∧ cur = B ++ x0 ∧ mem' = B ++ y0 := by
  unfold upB at h
  split at h
  · rename_i B
    simp only [Bool.and_eq_true] at h
    obtain ⟨x0, hx⟩ := preB_ok h.1
    obtain ⟨y0, hy⟩ := preB_ok h.2
    exact ⟨B, x0, y0, rfl, hx, hy⟩
  · cases h

theorem rOpsD_ok (hc : CallOk P call) {ops : Array Oper} : ∀ (l : Pl) (tm : Tm) (cur : AMem) (hist : List AMem) (ws : List (Nat × Nat)) (tm' : Tm) (mem' : AMem) (K : Tm → AMem → Prop),
    rOpsD P call ops l tm cur hist ws = some (tm', mem') → K tm' mem' → AOpsD P ops l tm cur hist ws K
  | [], tm, cur, hist, ws, tm', mem', K, h, hk => by
    simp only [rOpsD] at h
    split at h
    · rename_i hw
      simp only [Option.some.injEq, Prod.mk.injEq] at h
      obtain ⟨rfl, rfl⟩ := h; exact ⟨watchS_ok (watchB_ok hw), hk⟩
    · cases h
  | (o, p) :: rest, tm, cur, hist, ws, tm', mem', K, h, hk => by
    rw [rOpsD.eq_def] at h
    simp only at h
    rw [AOpsD.eq_def]
    simp only
    split at h
    · rename_i hw
      rw [hw]
      simp only
      cases p with
      | val =>
        simp only at h ⊢
        split at h
        · rename_i x hv; rw [hv]; exact rOpsD_ok hc rest _ _ _ _ _ _ K h hk
        · cases h
      | rd lo =>
        simp only at h ⊢
        split at h
        · rename_i t y hop
          split at h
          · rename_i M hM
            split at h
            · rename_i x hx
              rw [hop]; simp only [hM, hx]; exact rOpsD_ok hc rest _ _ _ _ _ _ K h hk
            · cases h
          · cases h
        · cases h
      | rw lo =>
        simp only at h ⊢
        split at h
        · rename_i t y hop
          split at h
          · rename_i r ver off M hy hM
            split at h
            · rename_i x hx
              rw [hop]; simp only [hy, hM, hx]; exact rOpsD_ok hc rest _ _ _ _ _ _ K h hk
            · cases h
          · cases h
        · cases h
      | ext =>
        simp only at h ⊢
        split at h
        · cases h
        · rename_i f args ts hop
          split at h
          · rename_i g cs hf
            split at h
            · rename_i ret m1 hcall
              split at h
              · rename_i hp
                obtain ⟨extra, rfl⟩ := preB_ok hp
                rw [hop]; simp only [hf]
                exact ⟨ret, extra, hc _ _ _ _ _ hcall, rOpsD_ok hc rest _ _ _ _ _ _ K h hk⟩
              · cases h
            · cases h
          · cases h
        · rename_i h1 h2
          split at h
          · rename_i x m1 hv
            split at h
            · rename_i hp
              split
              · rename_i t x y hop; exact absurd hop (h1 t x y)
              · rename_i f args ts hop; exact absurd hop (h2 f args ts)
              · simp only [hv]
                exact ⟨preB_ok hp, rOpsD_ok hc rest _ _ _ _ _ _ K h hk⟩
            · cases h
          · cases h
      | up q =>
        simp only at h ⊢
        split at h
        · rename_i x m1 hv
          split at h
          · rename_i hp
            rw [hv]
            exact ⟨upB_ok hp, rOpsD_ok hc rest _ _ _ _ _ _ K h hk⟩
          · cases h
        · cases h
      | fl =>
        simp only at h ⊢
        split at h
        · rename_i t hop hg
          split at h
          · rename_i z hz
            rw [hop, hg]; simp only [hz]; exact rOpsD_ok hc rest _ _ _ _ _ _ K h hk
          · cases h
        · cases h
      | wr =>
        simp only at h ⊢
        split at h
        · rename_i t x y hop
          split at h
          · rename_i m1 hs
            rw [hop]; simp only [hs]; exact rOpsD_ok hc rest _ _ _ _ _ _ K h hk
          · cases h
        · rename_i f args ts hop
          split at h
          · rename_i g cs hf
            split at h
            · rename_i ret m1 hcall
              rw [hop]; simp only [hf]
              exact ⟨ret, m1, hc _ _ _ _ _ hcall, rOpsD_ok hc rest _ _ _ _ _ _ K h hk⟩
            · cases h
          · cases h
        · rename_i h1 h2
          split at h
          · rename_i x m1 hv
            split
            · rename_i t x y hop; exact absurd hop (h1 t x y)
            · rename_i f args ts hop; exact absurd hop (h2 f args ts)
            · simp only [hv]
              exact rOpsD_ok hc rest _ _ _ _ _ _ K h hk
          · cases h
    · rename_i hw
      rw [hw]
      exact rOpsD_ok hc rest _ _ _ _ _ _ K h hk
    · cases h

variable {pls : Nat → List Plan} {nt L : Nat}

theorem rLoop_ok {c : Code} {f : Tm → AMem → Option (Exit × Tm × AMem)} (hf : ∀ tm mem ex tm' mem' (Q : Exit → Tm → AMem → Prop), f tm mem = some (ex, tm', mem') → Q ex tm' mem' → AW P nt c tm mem Q) :
    ∀ (n : Nat) (tm : Tm) (mem : AMem) (ex : Exit) (tm' : Tm) (mem' : AMem) (Q : Exit → Tm → AMem → Prop), rLoop f n tm mem = some (ex, tm', mem') → Q ex tm' mem' → ARounds P nt c Q n tm mem
  | 0, _, _, _, _, _, _, h, _ => by cases h
  | n + 1, tm, mem, ex, tm', mem', Q, h, hq => by
    simp only [rLoop] at h
    split at h
    · rename_i tm1 mem1 h1
      exact hf _ _ _ _ _ _ h1 (rLoop_ok hf n _ _ _ _ _ Q h hq)
    · rename_i r hne
      have hex : ex ≠ .normal := by rintro rfl; exact hne _ _ h
      refine hf _ _ _ _ _ _ h ?_
      cases ex with
      | normal => exact absurd rfl hex
      | _ => exact hq

theorem rCode_ok (hc : CallOk P call) (hfol : P.follows .mixedOrders = true) : ∀ (c : Code) (tm : Tm) (mem : AMem) (ex : Exit) (tm' : Tm) (mem' : AMem) (Q : Exit → Tm → AMem → Prop),
    rCode P call pls nt L c tm mem = some (ex, tm', mem') → Q ex tm' mem' → AW P nt c tm mem Q := by
  intro c
  induction c with
  | skip => intro tm mem ex tm' mem' Q h hq; simp only [rCode, Option.some.injEq, Prod.mk.injEq] at h; obtain ⟨rfl, rfl, rfl⟩ := h; exact AW.skip hq
  | ret => intro tm mem ex tm' mem' Q h hq; simp only [rCode, Option.some.injEq, Prod.mk.injEq] at h; obtain ⟨rfl, rfl, rfl⟩ := h; exact AW.ret hq
  | exit id => intro tm mem ex tm' mem' Q h hq; simp only [rCode, Option.some.injEq, Prod.mk.injEq] at h; obtain ⟨rfl, rfl, rfl⟩ := h; exact AW.exit hq
  | seq x y ihx ihy =>
    intro tm mem ex tm' mem' Q h hq
    simp only [rCode] at h
    split at h
    · rename_i tm1 mem1 h1
      exact AW.seq (ihx _ _ _ _ _ _ h1 (ihy _ _ _ _ _ _ h hq))
    · rename_i r hne
      have hex : ex ≠ .normal := by rintro rfl; exact hne _ _ h
      refine AW.seq (ihx _ _ _ _ _ _ h ?_)
      cases ex with
      | normal => exact absurd rfl hex
      | _ => exact hq
  | block id c ih =>
    intro tm mem ex tm' mem' Q h hq
    simp only [rCode] at h
    refine AW.block ?_
    split at h
    · rename_i id' tm1 mem1 h1
      refine ih _ _ _ _ _ _ h1 ?_
      split at h
      · rename_i he
        simp only [Option.some.injEq, Prod.mk.injEq] at h; obtain ⟨rfl, rfl, rfl⟩ := h
        subst he; exact InB_here hq
      · rename_i he
        simp only [Option.some.injEq, Prod.mk.injEq] at h; obtain ⟨rfl, rfl, rfl⟩ := h
        exact InB_far he hq
    · rename_i r hne
      refine ih _ _ _ _ _ _ h ?_
      cases ex with
      | exit id' => exact absurd h (hne _ _ _)
      | _ => exact hq
  | cond c x y ihx ihy =>
    intro tm mem ex tm' mem' Q h hq
    simp only [rCode] at h
    split at h
    · rename_i hb; exact AW.cond_t hb (ihx _ _ _ _ _ _ h hq)
    · rename_i hb; exact AW.cond_f hb (ihy _ _ _ _ _ _ h hq)
    · cases h
  | loop c ih =>
    intro tm mem ex tm' mem' Q h hq
    simp only [rCode] at h
    exact AW.rounds L (rLoop_ok ih _ _ _ _ _ _ _ h hq)
  | region id ops b =>
    intro tm mem ex tm' mem' Q h hq
    cases b with
    | false =>
      simp only [rCode] at h
      split at h
      · rename_i hd
        simp only [Option.map_eq_some_iff, Prod.mk.injEq] at h
        obtain ⟨⟨tm1, mem1⟩, h1, rfl, rfl, rfl⟩ := h
        have h2 : AOps P ops ops.toList tm mem (Q .normal) := rOps_ok hc _ _ _ _ _ _ h1 hq
        have h3 := AW.region (P := P) (nt := nt) (id := id) (l := ops.toList) (tm := tm) (mem := mem) (Q := Q) hd (by simpa using h2)
        simpa using h3
      · cases h
    | true =>
      simp only [rCode] at h
      split at h
      · rename_i hd
        simp only [Option.map_eq_some_iff, Prod.mk.injEq] at h
        obtain ⟨⟨tm1, mem1⟩, h1, rfl, rfl, rfl⟩ := h
        have h2 := rOpsD_ok hc _ _ _ _ _ _ _ (Q .normal) h1 hq
        have h3 := AW.draw (P := P) (nt := nt) (id := id) (l := ops.toList) (tm := tm) (mem := mem) (Q := Q) (pls id) hfol hd.1 hd.2 (by simpa using h2)
        simpa using h3
      · cases h
  | _ => intro tm mem ex tm' mem' Q h hq; simp only [rCode] at h; cases h
end

theorem Hands.all {x : AV} {mem : AMem} {L : Nat} : Hands L x mem x mem := fun ρ v w hv hm => ⟨ρ, hv, hm, fun _ _ _ _ h => h⟩

theorem rFunc_ok {P : Program} {pls : Nat → Nat → List Plan} {L : Nat} (hfol : P.follows .mixedOrders = true) : ∀ n : Nat, CallOk P (rFunc P pls L n)
  | 0 => fun g args mem ret mem' h => by cases h
  | n + 1 => fun g args mem ret mem' h => by
    simp only [rFunc] at h
    split at h
    · rename_i fn hfn
      split at h
      · rename_i c hb
        split at h
        · rename_i hname
          have ok := rFunc_ok (P := P) (pls := pls) (L := L) hfol n
          split at h
          · rename_i tm m hr
            simp only [Option.map_eq_some_iff, Prod.mk.injEq] at h
            obtain ⟨x, hx, rfl, rfl⟩ := h
            exact Ctr.of_body hfn hb hname fun hw => rCode_ok ok hfol _ _ _ _ _ _ _ hr ⟨.inl rfl, x, hx, Hands.all⟩
          · rename_i tm m hr
            simp only [Option.map_eq_some_iff, Prod.mk.injEq] at h
            obtain ⟨x, hx, rfl, rfl⟩ := h
            exact Ctr.of_body hfn hb hname fun hw => rCode_ok ok hfol _ _ _ _ _ _ _ hr ⟨.inr rfl, x, hx, Hands.all⟩
          · cases h
        · cases h
      · cases h
    · cases h

/-- What is reckoned with no memory at hand, and leads to none, holds in every memory. -/
theorem Ctr.closed {P : Program} {f : FuncId} {args : List AV} {ret : AV} {mem' : AMem} (h : Ctr P f args [] ret mem') (ha : ∀ a, a ∈ args → a.below 0 = true) (hr : ret.below 0 = true) (m : AMem) : Ctr P f args m ret m := by
  refine fun ρ w vs hm hargs => ?_
  have h0 : RepM (ρ.upto 0) [] w := ⟨fun r b h => by simp at h, fun r v _ => by simp [Env.upto], fun r b v h => by simp at h, fun r s b c h => by simp at h⟩
  have hargs' : ∀ {xa : List AV} {vs : List Value}, (∀ a, a ∈ xa → a.below 0 = true) → All2 (VR ρ) xa vs → All2 (VR (ρ.upto 0)) xa vs := by
    intro xa
    induction xa with
    | nil => intro vs _ h; cases vs with
      | nil => trivial
      | cons _ _ => exact h.elim
    | cons a xa ih => intro vs hb h; cases vs with
      | nil => exact h.elim
      | cons v vs => exact ⟨h.1.upto (hb a List.mem_cons_self), ih (fun a ha => hb a (List.mem_cons_of_mem _ ha)) h.2⟩
  refine (h _ w vs h0 (hargs' ha hargs)).mono ?_
  rintro e w' ⟨v, ρ', rfl, hv, hm', hs⟩
  have hfr : ∀ n, n < w.heap.size → w'.heap[n]? = w.heap[n]? := fun n hn => hs.frame n hn fun r b x k hb => by simp at hb
  have hm2 : RepM ρ m w' := by
    refine ⟨fun r b hb => ?_, hm.dom, hm.domv, hm.sep⟩
    exact (hm.blk r b hb).heap hs.size fun x k hx hne hlt => hfr _ hlt
  refine ⟨v, ρ, rfl, ?_, hm2, ?_⟩
  · exact (hv.upto hr).mono (fun r v x hx => by simp [Env.upto] at hx)
  · exact ⟨hs.os, hs.tape, hs.output, hs.size, Nat.le_refl _, fun _ _ _ _ h => h, fun r b b' h h' => by rw [h] at h'; injection h' with h'; rw [h'], fun r b h _ => h, fun n hn _ => hfr n hn, fun r b x k h hk hx => .inr ⟨r, b, x, k, h, hk, hx, rfl⟩⟩

/-- A call whose arguments are known, reckoned by the machine. -/
theorem Ctr.run {P : Program} {f : FuncId} {args : List AV} {ret : AV} (pls : Nat → Nat → List Plan) (L n : Nat) (hfol : P.follows .mixedOrders = true) (h : ((rFunc P pls L n f args []).map (·.1)) = some ret) (ha : ∀ a, a ∈ args → a.below 0 = true) (hr : ret.below 0 = true) (m : AMem) : Ctr P f args m ret m := by
  rw [Option.map_eq_some_iff] at h
  obtain ⟨⟨x, mem'⟩, h1, rfl⟩ := h
  exact Ctr.closed (rFunc_ok hfol n _ _ _ _ _ h1) ha hr m
end Go.Eng

/-
  ENGINE, PART P: a nil slice taken as a row of our own with nothing in it; loops whose rounds make blocks.
-/
set_option linter.unusedVariables false
set_option linter.unusedSimpArgs false
namespace Go.Eng
open Go

theorem set_self {α : Type} : ∀ {l : List α} {j : Nat} {v : α}, l[j]? = some v → l.set j v = l
  | [], _, _, _ => rfl
  | x :: l, 0, v, h => by simp at h; subst h; rfl
  | x :: l, j + 1, v, h => by simp at h; simp [set_self h]
theorem All2.set_left {α β : Type} {R : α → β → Prop} {xa : List α} {bs : List β} (h : All2 R xa bs) {j : Nat} {a : α} {b : β} (hb : bs[j]? = some b) (hr : R a b) : All2 R (xa.set j a) bs := by
  have := h.set (i := j) hr
  rwa [set_self hb] at this

section
variable {P : Program} {nt : Nat} {tm : Tm} {mem : AMem}
theorem nil_row {ρ : Env} {L : Nat} {v : Value} (h : VC ρ .nils v) : VC (ρ.set L 0 (none, 0)) (.sl L 0 0 0) v := by
  have e : v = .slice none 0 0 := h
  subst e
  exact ⟨none, 0, none, 0, Env.set_same _ _ _ _, rfl, Nat.le_refl _, fun h => by omega, fun _ => ⟨rfl, rfl⟩⟩

theorem Rep.nilRow {ρ : Env} {a : Act} {w : World} (hr : Rep ρ nt tm mem a w) (ty esz : Nat) (mem1 : AMem) (hlen : mem1.length = mem.length) (hk : ∀ (r : Nat) (b1 : Blk), mem1[r]? = some b1 → ∃ b, mem[r]? = some b ∧ b1.kind = b.kind ∧ b1.ver = b.ver ∧ (b.kind = .ro → b1 = b))
    (hb : ∀ (r : Nat) (b1 : Blk), mem1[r]? = some b1 → BlkR (ρ.set mem.length 0 (none, 0)) w r b1) (tm1 : Tm) (ht : ∀ i, VR (ρ.set mem.length 0 (none, 0)) (Tm.get tm1 i) (a.tmps.getD i undef)) :
    Rep (ρ.set mem.length 0 (none, 0)) nt tm1 (mem1 ++ [⟨.grow, ty, 0, esz, []⟩]) a w ∧ ∀ m0 ρ0 w0, Step m0 ρ0 w0 mem ρ w → Step m0 ρ0 w0 (mem1 ++ [⟨.grow, ty, 0, esz, []⟩]) (ρ.set mem.length 0 (none, 0)) w := by
  have hle : ρ.le (ρ.set mem.length 0 (none, 0)) := Env.le_set (hr.mem.dom _ _ (Nat.le_refl _))
  have hgt : ∀ {s : Nat} {d : Blk}, (mem1 ++ [⟨.grow, ty, 0, esz, []⟩])[s]? = some d → (s < mem.length ∧ mem1[s]? = some d) ∨ (s = mem.length ∧ d = ⟨.grow, ty, 0, esz, []⟩) := by
    intro s d hd
    rcases Nat.lt_or_ge s mem1.length with h | h
    · rw [List.getElem?_append_left h] at hd; exact .inl ⟨by omega, hd⟩
    · rw [List.getElem?_append_right h] at hd
      have hl := (List.getElem?_eq_some_iff.1 hd).1
      simp at hl
      have : s = mem.length := by omega
      subst this
      simp [hlen] at hd
      exact .inr ⟨rfl, hd.symm⟩
  have hoth : ∀ {s v : Nat}, s < mem.length → ρ.set mem.length 0 (none, 0) s v = ρ s v := fun {s v} h => Env.set_other ρ _ (by omega)
  refine ⟨⟨hr.size, ht, ⟨?_, ?_, ?_, ?_⟩⟩, ?_⟩
  · intro s d hd
    rcases hgt hd with ⟨_, h1⟩ | ⟨rfl, rfl⟩
    · exact hb s d h1
    · exact .inl ⟨rfl, Env.set_same _ _ _ _⟩
  · intro s v hs
    simp at hs
    rw [Env.set_other ρ _ (by omega)]
    exact hr.mem.dom s v (by omega)
  · intro s d v hd hv
    rcases hgt hd with ⟨hl, h1⟩ | ⟨rfl, rfl⟩
    · obtain ⟨b, h2, _, h3, _⟩ := hk s d h1
      rw [hoth hl]; exact hr.mem.domv s b v h2 (by omega)
    · simp only at hv
      rw [Env.set_other ρ _ (by omega)]
      exact hr.mem.dom _ _ (Nat.le_refl _)
  · intro s t d e hd he hst hkd hne x y k1 k2 hx hy
    rcases hgt hd with ⟨hl, h1⟩ | ⟨rfl, rfl⟩
    · rcases hgt he with ⟨hl', h1'⟩ | ⟨rfl, rfl⟩
      · obtain ⟨b, h2, h3, h4, h5⟩ := hk s d h1
        obtain ⟨b', h2', h3', h4', h5'⟩ := hk t e h1'
        rw [hoth hl, h4] at hx
        rw [hoth hl', h4'] at hy
        exact hr.mem.sep s t b b' h2 h2' hst (by rw [← h3]; exact hkd) (fun h => by rw [← h5' h]; exact hne (by rw [h3']; exact h)) x y k1 k2 hx hy
      · simp only [Env.set_same] at hy
        injection hy with hy; injection hy with hy _; cases hy
    · simp only [Env.set_same] at hx
      injection hx with hx; injection hx with hx _; cases hx
  · intro m0 ρ0 w0 hs
    refine ⟨hs.os, hs.tape, hs.output, hs.size, ?_, fun r hr v x hx => hle _ _ _ (hs.ext r hr v x hx), ?_, ?_, ?_, ?_⟩
    · have := hs.len; simp; omega
    · intro r b b' hb0 hb'
      have hl0 := (List.getElem?_eq_some_iff.1 hb0).1
      have := hs.len
      rcases hgt hb' with ⟨hl, h1⟩ | ⟨rfl, rfl⟩
      · obtain ⟨b2, h2, h3, _, _⟩ := hk r b' h1
        rw [h3]; exact hs.kind r b b2 hb0 h2
      · omega
    · intro r b' hb' hro
      rcases hgt hb' with ⟨hl, h1⟩ | ⟨rfl, rfl⟩
      · obtain ⟨b2, h2, h3, _, h5⟩ := hk r b' h1
        have e := h5 (by rw [← h3]; exact hro)
        subst e
        exact hs.ro r b' h2 hro
      · cases hro
    · exact hs.frame
    · intro r b' x k hb' hkd hx
      rcases hgt hb' with ⟨hl, h1⟩ | ⟨rfl, rfl⟩
      · obtain ⟨b2, h2, h3, h4, h5⟩ := hk r b' h1
        rw [hoth hl, h4] at hx
        exact hs.fresh r b2 x k h2 (by rw [← h3]; exact hkd) hx
      · simp only [Env.set_same] at hx
        injection hx with hx; injection hx with hx _; cases hx

theorem BlkR.nilCell {ρ ρ' : Env} (hle : ρ.le ρ') {w : World} {r : Nat} {b : Blk} (hb : BlkR ρ w r b) (hk : b.kind ≠ .ro) {j : Nat} (hj : b.cells[j]? = some .nils) {c : CV} (hc : ∀ v, VC ρ .nils v → VC ρ' c v) : BlkR ρ' w r { b with cells := b.cells.set j c } := by
  obtain ⟨kind, ty, ver, esz, cells⟩ := b
  cases kind with
  | fix =>
    obtain ⟨n, cs, k, h1, h2, h3, hkk⟩ := hb
    obtain ⟨v, hv, hr⟩ := h3.get hj
    exact ⟨n, cs, k, hle _ _ _ h1, h2, (h3.mono fun _ _ => VC.mono hle).set_left hv (hc v hr), hkk⟩
  | grow =>
    rcases hb with ⟨h1, h2⟩ | ⟨n, cs, cap, xs, sp, h1, h2, h3, hcm, h4, h5⟩
    · simp only at h1; subst h1; simp at hj
    · obtain ⟨v, hv, hr⟩ := h5.get hj
      exact .inr ⟨n, cs, cap, xs, sp, hle _ _ _ h1, h2, h3, hcm, h4, (h5.mono fun _ _ => VC.mono hle).set_left hv (hc v hr)⟩
  | ro => exact absurd rfl hk
  | map ka va clock es => obtain ⟨n, o, k, _, _, _, h⟩ := hb; simp only at h; subst h; simp at hj
  | iter rm since seen last => obtain ⟨n, N, k, k', _, _, _, h⟩ := hb; simp only at h; subst h; simp at hj

/-- A nil slice in a cell of a block of our own, taken as a row with nothing in it. -/
theorem AW.nilCell {c : Code} {Q : Exit → Tm → AMem → Prop} (ty esz : Nat) (r j : Nat) {b : Blk} (hb : mem[r]? = some b) (hk : b.kind ≠ .ro) (hj : b.cells[j]? = some .nils)
    (h : AW P nt c tm (mem.set r { b with cells := b.cells.set j (.sl mem.length 0 0 0) } ++ [⟨.grow, ty, 0, esz, []⟩]) Q) : AW P nt c tm mem Q := by
  intro ρ a w hr
  have hle : ρ.le (ρ.set mem.length 0 (none, 0)) := Env.le_set (hr.mem.dom _ _ (Nat.le_refl _))
  have hrl := (List.getElem?_eq_some_iff.1 hb).1
  have hgt : ∀ {s : Nat} {d : Blk}, (mem.set r { b with cells := b.cells.set j (.sl mem.length 0 0 0) })[s]? = some d → (s ≠ r ∧ mem[s]? = some d) ∨ (s = r ∧ d = { b with cells := b.cells.set j (.sl mem.length 0 0 0) }) := by
    intro s d hd
    by_cases hs : s = r
    · subst hs; rw [List.getElem?_set_self hrl] at hd; injection hd with hd; exact .inr ⟨rfl, hd.symm⟩
    · rw [List.getElem?_set_ne (fun e => hs e.symm)] at hd; exact .inl ⟨hs, hd⟩
  obtain ⟨h1, h2⟩ := hr.nilRow ty esz (mem.set r { b with cells := b.cells.set j (.sl mem.length 0 0 0) }) (by simp) (fun s d hd => by
      rcases hgt hd with ⟨_, h1⟩ | ⟨e1, e2⟩
      · exact ⟨d, h1, rfl, rfl, fun _ => rfl⟩
      · subst e1; subst e2; exact ⟨b, hb, rfl, rfl, fun h => absurd h hk⟩) (fun s d hd => by
      rcases hgt hd with ⟨_, h1⟩ | ⟨e1, e2⟩
      · exact (hr.mem.blk s d h1).mono hle
      · subst e1; subst e2; exact (hr.mem.blk s b hb).nilCell hle hk hj fun v hv => nil_row hv) tm (fun i => (hr.tm i).mono hle)
  refine wp_mono (h _ a w h1) ?_
  rintro e a' w' ⟨ρ2, tm2, mem2, hr2, hs2, hd, hq⟩
  exact ⟨ρ2, tm2, mem2, hr2, (h2 mem ρ w (Step.refl _ _ _)).trans hs2, hd, hq⟩

/-- The same of a temporary. -/
theorem AW.nilTm {c : Code} {Q : Exit → Tm → AMem → Prop} (ty esz : Nat) (d : Nat) (hd : Tm.get tm d = .one .nils)
    (h : AW P nt c ((d, .one (.sl mem.length 0 0 0)) :: tm) (mem ++ [⟨.grow, ty, 0, esz, []⟩]) Q) : AW P nt c tm mem Q := by
  intro ρ a w hr
  have hle : ρ.le (ρ.set mem.length 0 (none, 0)) := Env.le_set (hr.mem.dom _ _ (Nat.le_refl _))
  obtain ⟨h1, h2⟩ := hr.nilRow ty esz mem rfl (fun s d hd => ⟨d, hd, rfl, rfl, fun _ => rfl⟩) (fun s d hd => (hr.mem.blk s d hd).mono hle) ((d, .one (.sl mem.length 0 0 0)) :: tm) (fun i => by
    rw [Tm.get_put]
    by_cases hi : i = d
    · subst hi
      rw [if_pos rfl]
      have := hr.tm i
      rw [hd] at this
      exact nil_row this
    · rw [if_neg hi]; exact (hr.tm i).mono hle)
  refine wp_mono (h _ a w h1) ?_
  rintro e a' w' ⟨ρ2, tm2, mem2, hr2, hs2, hd, hq⟩
  exact ⟨ρ2, tm2, mem2, hr2, (h2 mem ρ w (Step.refl _ _ _)).trans hs2, hd, hq⟩

/-- A loop whose rounds may make blocks. -/
theorem AW.loopE {ι : Type} {c : Code} {Q : Exit → Tm → AMem → Prop} (keep : List Nat) (m0 : AMem) (I : ι → Prop) (V : ι → Tm) (U : ι → List (Nat × Blk)) (E : ι → AMem) (μ : ι → Nat) (i : ι) (hi : I i) (hv : Keeps tm (V i)) (hm : setAll m0 (U i) ++ E i = mem)
    (hE : ∀ i j, I i → I j → μ j < μ i → (E i).length ≤ (E j).length)
    (h : ∀ i, I i → AW P nt c (V i ++ keepL tm keep) (setAll m0 (U i) ++ E i) (Thn (fun tm' mem' => ∃ j, I j ∧ μ j < μ i ∧ Weak nt tm' mem' (V j ++ keepL tm keep) (setAll m0 (U j) ++ E j)) Q)) : AW P nt (.loop c) tm mem Q := by
  refine AW.weak (tm' := V i ++ keepL tm keep) (Keeps.append hv (keeps_keepL _ _)) ?_
  refine AW.loop (ι := { i // I i }) (fun j => V j.1 ++ keepL tm keep) (fun j => setAll m0 (U j.1) ++ E j.1) (fun j => μ j.1) ⟨i, hi⟩ rfl hm fun ⟨j, hj⟩ => ?_
  refine (h j hj).mono fun e tm' mem' hq => ?_
  cases e with
  | normal =>
    obtain ⟨k, hk, hlt, hw⟩ := hq
    exact ⟨⟨k, hk⟩, hlt, hw, by simp only [List.length_append, setAll_len]; have := hE j k hj hk hlt; omega⟩
  | _ => exact hq

def nilC (L : Nat) (c c' : CV) : Prop := c' = c ∨ (c = .nils ∧ c' = .sl L 0 0 0)
def nilV (L : Nat) : AV → AV → Prop
  | .one c, .one c' => nilC L c c'
  | .agg cs, .agg cs' => All2 (nilC L) cs cs'
  | .tup ts, .tup ts' => All2 (fun t t' => t.1 = t'.1 ∧ All2 (nilC L) t.2 t'.2) ts ts'
  | _, _ => False
theorem AW.loopE0 {ι : Type} {c : Code} {Q : Exit → Tm → AMem → Prop} (keep : List Nat) (I : ι → Prop) (V : ι → Tm) (U : ι → List (Nat × Blk)) (E : ι → AMem) (μ : ι → Nat) (i : ι) (hi : I i) (hv : Keeps tm (V i)) (hm : setAll mem (U i) ++ E i = mem)
    (hE : ∀ i j, I i → I j → μ j < μ i → (E i).length ≤ (E j).length)
    (h : ∀ i, I i → AW P nt c (V i ++ keepL tm keep) (setAll mem (U i) ++ E i) (Thn (fun tm' mem' => ∃ j, I j ∧ μ j < μ i ∧ Weak nt tm' mem' (V j ++ keepL tm keep) (setAll mem (U j) ++ E j)) Q)) : AW P nt (.loop c) tm mem Q :=
  AW.loopE keep mem I V U E μ i hi hv hm hE h

theorem nilC_sound {ρ : Env} {L : Nat} (hle : ρ.le (ρ.set L 0 (none, 0))) {c c' : CV} {v : Value} (h : nilC L c c') (hv : VC ρ c v) : VC (ρ.set L 0 (none, 0)) c' v := by
  rcases h with rfl | ⟨rfl, rfl⟩
  · exact hv.mono hle
  · exact nil_row hv
theorem nilL_sound {ρ : Env} {L : Nat} (hle : ρ.le (ρ.set L 0 (none, 0))) : ∀ {cs cs' : List CV} {vs : List Value}, All2 (nilC L) cs cs' → All2 (VC ρ) cs vs → All2 (VC (ρ.set L 0 (none, 0))) cs' vs
  | [], [], [], _, _ => trivial
  | c :: cs, c' :: cs', v :: vs, h, hv => ⟨nilC_sound hle h.1 hv.1, nilL_sound hle h.2 hv.2⟩
  | [], _ :: _, _, h, _ => h.elim
  | _ :: _, [], _, h, _ => h.elim
  | [], [], _ :: _, _, h => h.elim
  | _ :: _, _ :: _, [], _, h => h.elim
theorem nilT_sound {ρ : Env} {L : Nat} (hle : ρ.le (ρ.set L 0 (none, 0))) {t t' : Bool × List CV} {v : Value} (h : t.1 = t'.1 ∧ All2 (nilC L) t.2 t'.2) (hv : TV ρ t v) : TV (ρ.set L 0 (none, 0)) t' v := by
  obtain ⟨b, cs⟩ := t
  obtain ⟨b', cs'⟩ := t'
  obtain ⟨h1, h2⟩ := h
  simp only at h1 h2
  subst h1
  cases b with
  | true => obtain ⟨vs, e, hvs⟩ := hv; exact ⟨vs, e, nilL_sound hle h2 hvs⟩
  | false =>
    match cs, cs', h2, hv with
    | [], [], _, _ => trivial
    | [c], [c'], h2, hv => exact nilC_sound hle h2.1 hv
    | _ :: _ :: _, _ :: _ :: _, _, _ => trivial
    | [], _ :: _, h2, _ => exact h2.elim
    | _ :: _, [], h2, _ => exact h2.elim
    | [_], _ :: _ :: _, h2, _ => exact h2.2.elim
    | _ :: _ :: _, [_], h2, _ => exact h2.2.elim
theorem nilTs_sound {ρ : Env} {L : Nat} (hle : ρ.le (ρ.set L 0 (none, 0))) : ∀ {ts ts' : List (Bool × List CV)} {vs : List Value}, All2 (fun t t' => t.1 = t'.1 ∧ All2 (nilC L) t.2 t'.2) ts ts' → All2 (TV ρ) ts vs → All2 (TV (ρ.set L 0 (none, 0))) ts' vs
  | [], [], [], _, _ => trivial
  | c :: cs, c' :: cs', v :: vs, h, hv => ⟨nilT_sound hle h.1 hv.1, nilTs_sound hle h.2 hv.2⟩
  | [], _ :: _, _, h, _ => h.elim
  | _ :: _, [], _, h, _ => h.elim
  | [], [], _ :: _, _, h => h.elim
  | _ :: _, _ :: _, [], _, h => h.elim
theorem nilV_sound {ρ : Env} {L : Nat} (hle : ρ.le (ρ.set L 0 (none, 0))) {x x' : AV} {v : Value} (h : nilV L x x') (hv : VR ρ x v) : VR (ρ.set L 0 (none, 0)) x' v := by
  match x, x', h, hv with
  | .one c, .one c', h, hv => exact nilC_sound hle h hv
  | .agg cs, .agg cs', h, hv => obtain ⟨vs, e, hvs⟩ := hv; exact ⟨vs, e, nilL_sound hle h hvs⟩
  | .tup ts, .tup ts', h, hv => obtain ⟨vs, e, hvs⟩ := hv; exact ⟨vs, e, nilTs_sound hle h hvs⟩
  | .one _, .agg _, h, _ => exact h.elim
  | .one _, .tup _, h, _ => exact h.elim
  | .agg _, .one _, h, _ => exact h.elim
  | .agg _, .tup _, h, _ => exact h.elim
  | .tup _, .one _, h, _ => exact h.elim
  | .tup _, .agg _, h, _ => exact h.elim

/-- A nil slice that is handed back, taken as a row with nothing in it. -/
theorem Ctr.nil {f : FuncId} {args : List AV} {m m' : AMem} {ret ret' : AV} (h : Ctr P f args m ret m') (ty esz : Nat) (hv : nilV m'.length ret ret') : Ctr P f args m ret' (m' ++ [⟨.grow, ty, 0, esz, []⟩]) := by
  refine fun ρ w vs hm hargs => (h ρ w vs hm hargs).mono ?_
  rintro e w' ⟨v, ρ', rfl, hvr, hm', hs⟩
  have hle : ρ'.le (ρ'.set m'.length 0 (none, 0)) := Env.le_set (hm'.dom _ _ (Nat.le_refl _))
  have hr : Rep ρ' 0 [] m' ⟨#[], []⟩ w' := ⟨by simp, fun i => trivial, hm'⟩
  obtain ⟨h1, h2⟩ := hr.nilRow ty esz m' rfl (fun s d hd => ⟨d, hd, rfl, rfl, fun _ => rfl⟩) (fun s d hd => (hm'.blk s d hd).mono hle) [] (fun i => trivial)
  exact ⟨v, _, rfl, nilV_sound hle hv hvr, h1.mem, h2 _ _ _ hs⟩
end

theorem all2_cons {α β : Type} {R : α → β → Prop} {t : α} {ts : List α} {l : List β} (h : All2 R (t :: ts) l) : ∃ a xa, l = a :: xa ∧ R t a ∧ All2 R ts xa := by
  cases l with
  | nil => exact h.elim
  | cons a xa => exact ⟨a, xa, rfl, h.1, h.2⟩
theorem all2_nil {α β : Type} {R : α → β → Prop} {l : List β} (h : All2 R ([] : List α) l) : l = [] := by
  cases l with
  | nil => rfl
  | cons a xa => exact h.elim
theorem chain6 (p1 p2 p3 p4 p5 p6 : Prop) : (p1 ∧ p2 ∧ p3 ∧ p4 ∧ p5 ∧ p6) ∨ (p1 ∧ p2 ∧ p3 ∧ p4 ∧ p5 ∧ ¬p6) ∨ (p1 ∧ p2 ∧ p3 ∧ p4 ∧ ¬p5 ∧ True) ∨ (p1 ∧ p2 ∧ p3 ∧ ¬p4 ∧ True ∧ True) ∨ (p1 ∧ p2 ∧ ¬p3 ∧ True ∧ True ∧ True) ∨ (p1 ∧ ¬p2 ∧ True ∧ True ∧ True ∧ True) ∨ (¬p1 ∧ True ∧ True ∧ True ∧ True ∧ True) := by
  rcases Classical.em p1 with h | h <;> rcases chain5 p2 p3 p4 p5 p6 with h' | h' | h' | h' | h' | h' <;> simp [h, h']
theorem chain7 (p1 p2 p3 p4 p5 p6 p7 : Prop) : (p1 ∧ p2 ∧ p3 ∧ p4 ∧ p5 ∧ p6 ∧ p7) ∨ (p1 ∧ p2 ∧ p3 ∧ p4 ∧ p5 ∧ p6 ∧ ¬p7) ∨ (p1 ∧ p2 ∧ p3 ∧ p4 ∧ p5 ∧ ¬p6 ∧ True) ∨ (p1 ∧ p2 ∧ p3 ∧ p4 ∧ ¬p5 ∧ True ∧ True) ∨ (p1 ∧ p2 ∧ p3 ∧ ¬p4 ∧ True ∧ True ∧ True) ∨ (p1 ∧ p2 ∧ ¬p3 ∧ True ∧ True ∧ True ∧ True) ∨ (p1 ∧ ¬p2 ∧ True ∧ True ∧ True ∧ True ∧ True) ∨ (¬p1 ∧ True ∧ True ∧ True ∧ True ∧ True ∧ True) := by
  rcases Classical.em p1 with h | h <;> rcases chain6 p2 p3 p4 p5 p6 p7 with h' | h' | h' | h' | h' | h' | h' <;> simp [h, h']
theorem chain8 (p1 p2 p3 p4 p5 p6 p7 p8 : Prop) : (p1 ∧ p2 ∧ p3 ∧ p4 ∧ p5 ∧ p6 ∧ p7 ∧ p8) ∨ (p1 ∧ p2 ∧ p3 ∧ p4 ∧ p5 ∧ p6 ∧ p7 ∧ ¬p8) ∨ (p1 ∧ p2 ∧ p3 ∧ p4 ∧ p5 ∧ p6 ∧ ¬p7 ∧ True) ∨ (p1 ∧ p2 ∧ p3 ∧ p4 ∧ p5 ∧ ¬p6 ∧ True ∧ True) ∨ (p1 ∧ p2 ∧ p3 ∧ p4 ∧ ¬p5 ∧ True ∧ True ∧ True) ∨ (p1 ∧ p2 ∧ p3 ∧ ¬p4 ∧ True ∧ True ∧ True ∧ True) ∨ (p1 ∧ p2 ∧ ¬p3 ∧ True ∧ True ∧ True ∧ True ∧ True) ∨ (p1 ∧ ¬p2 ∧ True ∧ True ∧ True ∧ True ∧ True ∧ True) ∨ (¬p1 ∧ True ∧ True ∧ True ∧ True ∧ True ∧ True ∧ True) := by
  rcases Classical.em p1 with h | h <;> rcases chain7 p2 p3 p4 p5 p6 p7 p8 with h' | h' | h' | h' | h' | h' | h' | h' <;> simp [h, h']
end Go.Eng

/-
  ENGINE, PART Q: a region that draws its order, where operations that make memory are left unordered: it is parted by which of two comes first, and each part is reckoned in an order of its own.
-/
set_option linter.unusedVariables false
set_option linter.unusedSimpArgs false
namespace Go.Eng
open Go

def bef (σ : List Nat) (i j : Nat) : Prop := σ.idxOf i < σ.idxOf j

/-- An order in which the operations of a region may run. -/
structure Lin (ops : Array Oper) (σ : List Nat) : Prop where
  nd : σ.Nodup
  all : ∀ i, i ∈ σ ↔ i < ops.size
  ord : ∀ (j : Nat) (o : Oper), ops[j]? = some o → ∀ e, e ∈ o.after → Region.binds .any e = true → bef σ e.on j

def backB (ops : List Oper) : Bool := (List.range ops.length).all fun j => match ops[j]? with
  | some o => o.after.all fun e => !Region.binds .any e || decide (e.on < j)
  | none => true
theorem backB_ok {l : List Oper} (h : backB l = true) : ∀ (j : Nat) (o : Oper), l.toArray[j]? = some o → ∀ e, e ∈ o.after → Region.binds .any e = true → e.on < j := by
  intro j o hj e he hb
  have hj' : l[j]? = some o := by simpa using hj
  have h1 := List.all_eq_true.1 h j (List.mem_range.2 (List.getElem?_eq_some_iff.1 hj').1)
  rw [hj'] at h1
  have h2 := Array.all_eq_true_iff_forall_mem.1 h1 e he
  simpa [hb] using h2

theorem idxOf_cons' (i : Nat) (σ : List Nat) (k : Nat) : (i :: σ).idxOf k = if k = i then 0 else σ.idxOf k + 1 := by
  rw [List.idxOf_cons]
  by_cases h : k = i
  · subst h; simp
  · have h1 : (i == k) = false := by simpa using fun e => h e.symm
    rw [if_neg h, h1]; rfl

theorem get_idxOf : ∀ {σ : List Nat} {i : Nat}, i ∈ σ → σ[σ.idxOf i]? = some i
  | k :: σ, i, h => by
    rw [idxOf_cons']
    by_cases e : i = k
    · subst e; simp
    · rw [if_neg e]
      rcases List.mem_cons.1 h with h | h
      · exact absurd h e
      · simpa using get_idxOf h

theorem getD_set (l : Array Bool) (i k : Nat) (d : Bool) (hi : i < l.size) : (l.setIfInBounds i true).getD k d = if k = i then true else l.getD k d := by
  simp only [Array.getD_eq_getD_getElem?]
  by_cases h : k = i
  · subst h; simp [Array.getElem?_setIfInBounds_self_of_lt, hi]
  · rw [if_neg h, Array.getElem?_setIfInBounds_ne (fun e => h e.symm)]

def unl (n : Nat) (listed : Array Bool) : Nat := (List.range n).countP fun i => !listed.getD i true

theorem go_facts {ops : Array Oper} (hback : ∀ (j : Nat) (o : Oper), ops[j]? = some o → ∀ e, e ∈ o.after → Region.binds .any e = true → e.on < j) :
    ∀ (fuel t : Nat) (listed : Array Bool), listed.size = ops.size → unl ops.size listed ≤ fuel →
      (∀ i, i ∈ Region.linearise.go .any ops fuel t listed [] ↔ (i < ops.size ∧ listed.getD i true = false)) ∧ (Region.linearise.go .any ops fuel t listed []).Nodup ∧
      ∀ (j : Nat) (o : Oper), ops[j]? = some o → listed.getD j true = false → ∀ e, e ∈ o.after → Region.binds .any e = true → listed.getD e.on false = true ∨ bef (Region.linearise.go .any ops fuel t listed []) e.on j := by
  have hnone : ∀ (listed : Array Bool), listed.size = ops.size → Region.ready .any ops listed = [] → ∀ j, j < ops.size → listed.getD j true = true := by
    intro listed hsz hr j
    induction j using Nat.strongRecOn with
    | _ j ih =>
      intro hj
      cases hl : listed.getD j true with
      | true => rfl
      | false =>
        exfalso
        have hm : j ∈ Region.ready .any ops listed := by
          simp only [Region.ready, List.mem_filter, List.mem_range]
          refine ⟨hj, ?_⟩
          rw [hl, Array.getElem?_eq_getElem hj]
          simp only [Bool.not_false, Option.map_some, Option.getD_some, Bool.true_and]
          refine Array.all_eq_true_iff_forall_mem.2 fun e he => ?_
          cases hb : Region.binds .any e with
          | false => rfl
          | true =>
            have hlt := hback j _ (Array.getElem?_eq_getElem hj) e he hb
            have h1 := ih e.on hlt (by omega)
            simp only [Bool.not_true, Bool.false_or]
            have : e.on < listed.size := by omega
            simpa [Array.getD_eq_getD_getElem?, this] using h1
        rw [hr] at hm
        cases hm
  intro fuel
  induction fuel with
  | zero =>
    intro t listed hsz hc
    have h0 : ∀ i, i < ops.size → listed.getD i true = true := fun i hi => by
      cases hl : listed.getD i true with
      | true => rfl
      | false =>
        have : 0 < unl ops.size listed := List.countP_pos_iff.2 ⟨i, List.mem_range.2 hi, by simp only [hl, Bool.not_false]⟩
        omega
    simp only [Region.linearise.go]
    refine ⟨fun i => ⟨fun h => (by simp at h), fun h => ?_⟩, (by simp), fun j o hj hl e he hb => ?_⟩
    · have := h0 i h.1; rw [this] at h; cases h.2
    · have := h0 j (Array.getElem?_eq_some_iff.1 hj).1; rw [this] at hl; cases hl
  | succ fuel ih =>
    intro t listed hsz hc
    simp only [Region.linearise.go]
    change (∀ i, i ∈ (match (Region.ready .any ops listed)[t % (Region.ready .any ops listed).length]? with
      | some i => Region.linearise.go .any ops fuel (t / (Region.ready .any ops listed).length) (listed.setIfInBounds i true) [i]
      | none => [].reverse) ↔ (i < ops.size ∧ listed.getD i true = false)) ∧ (match (Region.ready .any ops listed)[t % (Region.ready .any ops listed).length]? with
      | some i => Region.linearise.go .any ops fuel (t / (Region.ready .any ops listed).length) (listed.setIfInBounds i true) [i]
      | none => [].reverse).Nodup ∧ ∀ (j : Nat) (o : Oper), ops[j]? = some o → listed.getD j true = false → ∀ e, e ∈ o.after → Region.binds .any e = true → listed.getD e.on false = true ∨ bef (match (Region.ready .any ops listed)[t % (Region.ready .any ops listed).length]? with
      | some i => Region.linearise.go .any ops fuel (t / (Region.ready .any ops listed).length) (listed.setIfInBounds i true) [i]
      | none => [].reverse) e.on j
    cases hi : (Region.ready .any ops listed)[t % (Region.ready .any ops listed).length]? with
    | none =>
      have hnil : Region.ready .any ops listed = [] := by
        cases hr : Region.ready .any ops listed with
        | nil => rfl
        | cons x xs =>
          rw [hr] at hi
          have hlt : t % (x :: xs).length < (x :: xs).length := Nat.mod_lt _ (by simp)
          simp at hi
          simp at hlt
          omega
      have h0 := hnone listed hsz hnil
      refine ⟨fun i => ⟨fun h => (by simp at h), fun h => ?_⟩, (by simp), fun j o hj hl e he hb => ?_⟩
      · have := h0 i h.1; rw [this] at h; cases h.2
      · have := h0 j (Array.getElem?_eq_some_iff.1 hj).1; rw [this] at hl; cases hl
    | some i =>
      have hm := List.mem_of_getElem? hi
      simp only [Region.ready, List.mem_filter, List.mem_range, Bool.and_eq_true, Bool.not_eq_true'] at hm
      obtain ⟨hil, hiu, hie⟩ := hm
      simp only []
      rw [linearise_go_acc, List.reverse_singleton, List.singleton_append]
      have hsz' : (listed.setIfInBounds i true).size = ops.size := by simpa using hsz
      have hget : ∀ k d, (listed.setIfInBounds i true).getD k d = if k = i then true else listed.getD k d := fun k d => getD_set _ _ _ _ (by omega)
      have hcnt : unl ops.size (listed.setIfInBounds i true) < unl ops.size listed := by
        refine countP_lt (fun k _ hk => ?_) i (List.mem_range.2 hil) (by rw [hiu]; rfl) (by rw [hget, if_pos rfl]; rfl)
        rw [hget] at hk
        by_cases e : k = i
        · rw [if_pos e] at hk; cases hk
        · rw [if_neg e] at hk; exact hk
      obtain ⟨h1, h2, h3⟩ := ih (t / (Region.ready .any ops listed).length) (listed.setIfInBounds i true) hsz' (by omega)
      generalize Region.linearise.go .any ops fuel (t / (Region.ready .any ops listed).length) (listed.setIfInBounds i true) [] = τ at *
      have hin : i ∉ τ := fun h => by
        have := ((h1 i).1 h).2
        rw [hget, if_pos rfl] at this; cases this
      refine ⟨fun k => ?_, List.nodup_cons.2 ⟨hin, h2⟩, fun j o hj hl e he hb => ?_⟩
      · rw [List.mem_cons, h1 k, hget]
        by_cases e : k = i
        · subst e; simp [hil, hiu]
        · rw [if_neg e]; simp [e]
      · unfold bef
        rw [idxOf_cons', idxOf_cons']
        by_cases ej : j = i
        · subst ej
          rw [hj] at hie
          simp only [Option.map_some, Option.getD_some] at hie
          have := Array.all_eq_true_iff_forall_mem.1 hie e he
          simp only [hb, Bool.not_true, Bool.false_or] at this
          exact .inl this
        · rw [if_neg ej]
          rcases h3 j o hj (by rw [hget, if_neg ej]; exact hl) e he hb with h | h
          · rw [hget] at h
            by_cases eo : e.on = i
            · exact .inr (by rw [if_pos eo]; omega)
            · rw [if_neg eo] at h; exact .inl h
          · right
            unfold bef at h
            split <;> omega

theorem lin_of {ops : Array Oper} (hback : ∀ (j : Nat) (o : Oper), ops[j]? = some o → ∀ e, e ∈ o.after → Region.binds .any e = true → e.on < j) (t : Nat) : Lin ops (Region.linearise .any ops t) := by
  have hrep : ∀ k, (Array.replicate ops.size false).getD k false = false := fun k => by
    simp only [Array.getD_eq_getD_getElem?, Array.getElem?_replicate]; split <;> rfl
  have hrep' : ∀ k, k < ops.size → (Array.replicate ops.size false).getD k true = false := fun k hk => by
    simp only [Array.getD_eq_getD_getElem?, Array.getElem?_replicate]; rw [if_pos hk]; rfl
  have h := go_facts hback ops.size t (Array.replicate ops.size false) (by simp) (by
    unfold unl
    have := List.countP_le_length (p := fun i => !(Array.replicate ops.size false).getD i true) (l := List.range ops.size)
    simpa using this)
  refine ⟨h.2.1, fun i => ?_, fun j o hj e he hb => ?_⟩
  · rw [show Region.linearise .any ops t = Region.linearise.go .any ops ops.size t (Array.replicate ops.size false) [] from rfl, h.1 i]
    exact ⟨fun h => h.1, fun h => ⟨h, hrep' i h⟩⟩
  · rcases h.2.2 j o hj (hrep' j (Array.getElem?_eq_some_iff.1 hj).1) e he hb with h1 | h1
    · rw [hrep] at h1; cases h1
    · exact h1

theorem wpAny_lin {P : Program} {ops : Array Oper} {Q : Exit → Act → World → Prop} {σ : List Nat} (hl : Lin ops σ) :
    ∀ (suf pre : List Nat) (fuel : Nat) (listed : Array Bool) (a : Act) (w : World), pre ++ suf = σ → listed.size = ops.size → (∀ k, k < ops.size → listed.getD k false = decide (k ∈ pre)) → suf.length ≤ fuel →
      wpAny P .any ops Q fuel listed a w → wpOps P ops Q suf a w := by
  intro suf
  induction suf with
  | nil =>
    intro pre fuel listed a w hp hsz hli hf h
    have hr : Region.ready .any ops listed = [] := by
      refine List.eq_nil_iff_forall_not_mem.2 fun i hi => ?_
      simp only [Region.ready, List.mem_filter, List.mem_range, Bool.and_eq_true, Bool.not_eq_true'] at hi
      have h1 := hli i hi.1
      have h2 : i ∈ pre := by rw [List.append_nil] at hp; rw [hp]; exact (hl.all i).2 hi.1
      have h3 : listed.getD i true = true := by
        have : i < listed.size := by have := hi.1; omega
        simp only [decide_eq_true h2] at h1
        simpa [Array.getD_eq_getD_getElem?, this] using h1
      rw [h3] at hi
      cases hi.2.1
    cases fuel with
    | zero => exact h.2
    | succ f => exact h.1 hr
  | cons i suf ih =>
    intro pre fuel listed a w hp hsz hli hf h
    have hnd := hl.nd
    rw [← hp] at hnd
    have hil : i < ops.size := (hl.all i).1 (by rw [← hp]; simp)
    have hip : i ∉ pre := fun hh => (List.nodup_append.1 hnd).2.2 i hh i List.mem_cons_self rfl
    have hidx : σ.idxOf i = pre.length := by
      rw [← hp, List.idxOf_append, if_neg hip]; simp
    have hrd : i ∈ Region.ready .any ops listed := by
      simp only [Region.ready, List.mem_filter, List.mem_range, Bool.and_eq_true, Bool.not_eq_true']
      refine ⟨hil, ?_, ?_⟩
      · have h1 := hli i hil
        rw [decide_eq_false hip] at h1
        have : i < listed.size := by omega
        simpa [Array.getD_eq_getD_getElem?, this] using h1
      · rw [Array.getElem?_eq_getElem hil]
        simp only [Option.map_some, Option.getD_some]
        refine Array.all_eq_true_iff_forall_mem.2 fun e he => ?_
        cases hb : Region.binds .any e with
        | false => rfl
        | true =>
          have h1 := hl.ord i _ (Array.getElem?_eq_getElem hil) e he hb
          unfold bef at h1
          rw [hidx] at h1
          have hmem : e.on ∈ pre := by
            rw [← hp, List.idxOf_append] at h1
            by_cases hm : e.on ∈ pre
            · exact hm
            · rw [if_neg hm] at h1; omega
          have hlt : e.on < ops.size := (hl.all _).1 (by rw [← hp]; exact List.mem_append_left _ hmem)
          simp only [Bool.not_true, Bool.false_or]
          rw [hli _ hlt, decide_eq_true hmem]
    cases fuel with
    | zero => simp at hf
    | succ f =>
      rw [wpOps_cons]
      refine wpOp_mono (fun a w => ih (pre ++ [i]) f (listed.setIfInBounds i true) a w (by simpa using hp) (by simpa using hsz) (fun k hk => ?_) (by simpa using hf)) (h.2 i hrd)
      rw [getD_set _ _ _ _ (by omega), hli k hk]
      by_cases e : k = i
      · subst e; simp
      · rw [if_neg e]; simp [e]

/-- The operations in another order, some of them bound to come behind others. -/
def reAft (π : List Nat) (ext : List (Nat × Nat)) (i : Nat) (af : Array Edge) : Array Edge := ((af.toList.map fun e : Edge => (⟨π.idxOf e.on, e.ground⟩ : Edge)) ++ ((ext.filter fun p => p.2 == i).map fun p => (⟨π.idxOf p.1, .data⟩ : Edge))).toArray
def reOp (π : List Nat) (ext : List (Nat × Nat)) (i : Nat) (o : Oper) : Oper :=
  ⟨o.dst, o.op, o.type, o.pos, reAft π ext i o.after, o.guard.map fun g => (π.idxOf g.1, g.2)⟩
def permL (ops : List Oper) (π : List Nat) (ext : List (Nat × Nat)) : List Oper := π.map fun i => reOp π ext i (ops[i]?.getD default)
def permOk (n : Nat) (π : List Nat) : Bool := decide (π.length = n) && π.all (fun i => decide (i < n)) && (List.range n).all (fun i => π.contains i) && decide π.Nodup

section
variable {ops : List Oper} {π : List Nat} {ext : List (Nat × Nat)}
theorem permOk_facts {n : Nat} (h : permOk n π = true) : π.length = n ∧ (∀ i, i ∈ π ↔ i < n) ∧ π.Nodup := by
  simp only [permOk, Bool.and_eq_true, decide_eq_true_eq, List.all_eq_true, List.mem_range, List.contains_iff_mem] at h
  obtain ⟨⟨⟨h1, h2⟩, h3⟩, h4⟩ := h
  exact ⟨h1, fun i => ⟨h2 i, h3 i⟩, h4⟩
theorem permL_get {n : Nat} (hn : ops.length = n) (h : permOk n π = true) {i : Nat} {o : Oper} (ho : ops[i]? = some o) : (permL ops π ext)[π.idxOf i]? = some (reOp π ext i o) := by
  obtain ⟨h1, h2, h3⟩ := permOk_facts h
  have hi : i < n := by rw [← hn]; exact (List.getElem?_eq_some_iff.1 ho).1
  have hm := (h2 i).2 hi
  unfold permL
  rw [List.getElem?_map, get_idxOf hm]
  simp [ho]
theorem idx_inj {n : Nat} (h : permOk n π = true) {i j : Nat} (hi : i < n) (he : π.idxOf i = π.idxOf j) : i = j := by
  obtain ⟨h1, h2, h3⟩ := permOk_facts h
  have hm := (h2 i).2 hi
  have e1 := get_idxOf hm
  have hj : j ∈ π := by
    refine List.idxOf_lt_length_iff.1 ?_
    rw [← he]; exact List.idxOf_lt_length_iff.2 hm
  have e2 := get_idxOf hj
  rw [← he, e1] at e2
  injection e2
theorem idxOf_map {n : Nat} (h : permOk n π = true) : ∀ (σ : List Nat), (∀ k, k ∈ σ → k < n) → ∀ {i : Nat}, i < n → (σ.map fun k => π.idxOf k).idxOf (π.idxOf i) = σ.idxOf i
  | [], _, i, _ => rfl
  | k :: σ, hs, i, hi => by
    rw [List.map_cons, idxOf_cons', idxOf_cons', idxOf_map h σ (fun k hk => hs k (List.mem_cons_of_mem _ hk)) hi]
    by_cases e : i = k
    · subst e; simp
    · rw [if_neg e, if_neg fun he => e (idx_inj h hi he)]

theorem Lin.perm {σ : List Nat} (hl : Lin ops.toArray σ) (h : permOk ops.length π = true) (he : ∀ p, p ∈ ext → bef σ p.1 p.2 ∧ p.1 < ops.length) (hb : ∀ (j : Nat) (o : Oper), ops.toArray[j]? = some o → ∀ e, e ∈ o.after → Region.binds .any e = true → e.on < j) :
    Lin (permL ops π ext).toArray (σ.map fun k => π.idxOf k) := by
  obtain ⟨h1, h2, h3⟩ := permOk_facts h
  have hlt : ∀ k, k ∈ σ → k < ops.length := fun k hk => by simpa using (hl.all k).1 hk
  have hsz : (permL ops π ext).toArray.size = ops.length := by simp [permL, h1]
  have hmapnd : ∀ τ : List Nat, (∀ k, k ∈ τ → k < ops.length) → τ.Nodup → (τ.map fun k => π.idxOf k).Nodup := by
    intro τ
    induction τ with
    | nil => intro _ _; simp
    | cons k τ ih =>
      intro hk hnd
      obtain ⟨hk1, hk2⟩ := List.nodup_cons.1 hnd
      rw [List.map_cons]
      refine List.nodup_cons.2 ⟨fun hm => ?_, ih (fun k hk' => hk k (List.mem_cons_of_mem _ hk')) hk2⟩
      obtain ⟨k', hk', e⟩ := List.mem_map.1 hm
      have := idx_inj h (hk k' (List.mem_cons_of_mem _ hk')) e
      subst this; exact hk1 hk'
  refine ⟨hmapnd σ hlt hl.nd, fun i => ?_, fun j o hj e hee hbe => ?_⟩
  · rw [hsz, List.mem_map]
    constructor
    · rintro ⟨k, hk, rfl⟩
      rw [← h1]; exact List.idxOf_lt_length_iff.2 ((h2 k).2 (hlt k hk))
    · intro hi
      have hi' : i < π.length := by omega
      refine ⟨π[i], (hl.all _).2 (by simpa using (h2 _).1 (List.getElem_mem hi')), h3.idxOf_getElem i hi'⟩
  · have hj' : (permL ops π ext)[j]? = some o := by simpa using hj
    unfold permL at hj'
    rw [List.getElem?_map, Option.map_eq_some_iff] at hj'
    obtain ⟨i, hi, rfl⟩ := hj'
    have hil : i < ops.length := (h2 i).1 (List.mem_of_getElem? hi)
    have hji : π.idxOf i = j := by
      obtain ⟨hjl, e⟩ := List.getElem?_eq_some_iff.1 hi
      rw [← e]; exact h3.idxOf_getElem j hjl
    have ho : ops[i]? = some (ops[i]'hil) := List.getElem?_eq_getElem hil
    rw [ho] at hee
    simp only [Option.getD_some, reOp, reAft, List.mem_toArray, List.mem_append, List.mem_map, List.mem_filter] at hee
    unfold bef
    rw [← hji, idxOf_map h σ hlt hil]
    rcases hee with ⟨e0, he0, rfl⟩ | ⟨p, ⟨hp, hpi⟩, rfl⟩
    · have hb0 : Region.binds .any e0 = true := by simpa [Region.binds] using hbe
      have hlt0 := hb i _ (by rw [List.getElem?_toArray]; exact ho) e0 (by simpa using he0) hb0
      simp only
      rw [idxOf_map h σ hlt (by omega)]
      exact hl.ord i _ (by rw [List.getElem?_toArray]; exact ho) e0 (by simpa using he0) hb0
    · have hpe : p.2 = i := by simpa using hpi
      simp only
      rw [idxOf_map h σ hlt (he p hp).2, ← hpe]
      exact (he p hp).1

theorem wpOp_perm {P : Program} {Q : Exit → Act → World → Prop} (h : permOk ops.length π = true) {i : Nat} (hi : i < ops.length) {K : Act → World → Prop} {a : Act} {w : World}
    (hw : wpOp P (permL ops π ext).toArray Q (π.idxOf i) K a w) : wpOp P ops.toArray Q i K a w := by
  obtain ⟨h1, h2, h3⟩ := permOk_facts h
  have ho : ops[i]? = some (ops[i]'hi) := List.getElem?_eq_getElem hi
  generalize ops[i]'hi = o at ho
  have hy : ∀ g, yielded (permL ops π ext).toArray a.tmps (π.idxOf g) = yielded ops.toArray a.tmps g := by
    intro g
    unfold yielded
    rcases Nat.lt_or_ge g ops.length with hg | hg
    · have hg' : ops[g]? = some (ops[g]'hg) := List.getElem?_eq_getElem hg
      simp only [List.getElem?_toArray, permL_get rfl h hg', hg', reOp, Option.bind_some]
    · have e1 : ops[g]? = none := List.getElem?_eq_none hg
      have e2 : (permL ops π ext)[π.idxOf g]? = none := List.getElem?_eq_none (by
        have : g ∉ π := fun hm => by have := (h2 g).1 hm; omega
        rw [List.idxOf_eq_length this]; simp [permL])
      simp only [List.getElem?_toArray, e1, e2]
  have hwant : Region.wanted (reOp π ext i o) (yielded (permL ops π ext).toArray a.tmps) = Region.wanted o (yielded ops.toArray a.tmps) := by
    simp only [Region.wanted, reOp]
    cases o.guard with
    | none => rfl
    | some g => simp only [Option.map_some, hy]
  unfold wpOp at hw ⊢
  simp only [List.getElem?_toArray, permL_get rfl h ho, hwant] at hw
  simp only [List.getElem?_toArray, ho]
  exact hw

theorem wpOps_perm {P : Program} {Q : Exit → Act → World → Prop} (h : permOk ops.length π = true) : ∀ (σ : List Nat), (∀ k, k ∈ σ → k < ops.length) → ∀ (a : Act) (w : World), wpOps P (permL ops π ext).toArray Q (σ.map fun k => π.idxOf k) a w → wpOps P ops.toArray Q σ a w
  | [], _, a, w, hw => hw
  | i :: σ, hs, a, w, hw => by
    rw [List.map_cons, wpOps_cons] at hw
    rw [wpOps_cons]
    exact wpOp_perm h (hs i List.mem_cons_self) (wpOp_mono (fun a w => wpOps_perm h σ (fun k hk => hs k (List.mem_cons_of_mem _ hk)) a w) hw)
end

section
variable {P : Program} {nt : Nat} {tm : Tm} {mem : AMem}
/-- All orders in which, of some pairs, the one comes ahead of the other. -/
def DX (P : Program) (nt : Nat) (ops : List Oper) (ext : List (Nat × Nat)) (tm : Tm) (mem : AMem) (K : Tm → AMem → Prop) : Prop :=
  ∀ ρ a w, Rep ρ nt tm mem a w → ∀ QQ : Exit → Act → World → Prop, (∀ ρ' tm' mem' a' w', Rep ρ' nt tm' mem' a' w' → Step mem ρ w mem' ρ' w' → a'.defers = a.defers → K tm' mem' → QQ .normal a' w') →
    ∀ σ, Lin ops.toArray σ → (∀ p, p ∈ ext → bef σ p.1 p.2) → wpOps P ops.toArray QQ σ a w

theorem AW.drawX {id : Nat} {l : List Oper} {Q : Exit → Tm → AMem → Prop} (hf : P.follows .mixedOrders = true) (hb : backB l = true) (h : DX P nt l [] tm mem (Q .normal)) : AW P nt (.region id l.toArray true) tm mem Q := by
  intro ρ a w hr
  refine wp_region_draw fun t => ?_
  simp only [Region.schedule, hf, Bool.true_or, if_true]
  exact h ρ a _ hr.drew _ (fun ρ' tm' mem' a' w' r s d k => ⟨ρ', tm', mem', r, ⟨s.os, s.tape, s.output, s.size, s.len, s.ext, s.kind, s.ro, s.frame, s.fresh⟩, d, k⟩) _ (lin_of (backB_ok hb) t) (fun p hp => by cases hp)

theorem DX.split {l : List Oper} {ext : List (Nat × Nat)} {K : Tm → AMem → Prop} (i j : Nat) (hn : i ≠ j ∧ i < l.length ∧ j < l.length) (h1 : DX P nt l ((i, j) :: ext) tm mem K) (h2 : DX P nt l ((j, i) :: ext) tm mem K) : DX P nt l ext tm mem K := by
  intro ρ a w hr QQ hQ σ hl he
  obtain ⟨hne, hi, hj⟩ := hn
  have hmi : i ∈ σ := (hl.all i).2 (by simpa using hi)
  have hmj : j ∈ σ := (hl.all j).2 (by simpa using hj)
  have hneq : σ.idxOf i ≠ σ.idxOf j := fun e => by
    have e1 := get_idxOf hmi
    have e2 := get_idxOf hmj
    rw [e, e2] at e1
    injection e1 with e1
    exact hne e1.symm
  rcases Nat.lt_or_ge (σ.idxOf i) (σ.idxOf j) with h | h
  · exact h1 ρ a w hr QQ hQ σ hl fun p hp => by
      rcases List.mem_cons.1 hp with rfl | hp
      · exact h
      · exact he p hp
  · exact h2 ρ a w hr QQ hQ σ hl fun p hp => by
      rcases List.mem_cons.1 hp with rfl | hp
      · unfold bef; simp only; omega
      · exact he p hp

def dxOk (nt : Nat) (l : List Oper) (π : List Nat) (ext : List (Nat × Nat)) (l' : List Oper) (pl : List Plan) : Bool :=
  permOk l.length π && backB l && ext.all (fun p => decide (p.1 < l.length)) && decide (pl.length = l'.length) && planOk nt (l'.zip pl)

theorem DX.run {l l' : List Oper} {ext : List (Nat × Nat)} {K : Tm → AMem → Prop} (π : List Nat) (pl : List Plan) (hl' : permL l π ext = l') (hok : dxOk nt l π ext l' pl = true)
    (h : AOpsD P l'.toArray (l'.zip pl) tm mem [mem] [] K) : DX P nt l ext tm mem K := by
  intro ρ a w hr QQ hQ σ hl he
  subst hl'
  simp only [dxOk, Bool.and_eq_true, List.all_eq_true, decide_eq_true_eq] at hok
  obtain ⟨⟨⟨⟨h1, h2⟩, h3⟩, h4⟩, h5⟩ := hok
  have hlt : ∀ k, k ∈ σ → k < l.length := fun k hk => by simpa using (hl.all k).1 hk
  refine wpOps_perm (ext := ext) h1 σ hlt a w ?_
  have hlin := hl.perm h1 (fun p hp => ⟨he p hp, h3 p hp⟩) (backB_ok h2)
  have he' : (permL l π ext).toArray = opsOf ((permL l π ext).zip pl) := by
    unfold opsOf
    rw [show (fun x : Oper × Plan => x.1) = Prod.fst from rfl, List.map_fst_zip (by omega)]
  have hs := aopsD_sound (P := P) h5 (by rw [he'] at h; exact h) hr (Q := QQ) hQ
  rw [← he'] at hs
  refine wpAny_lin hlin (σ.map fun k => π.idxOf k) [] _ _ a w rfl (by simp) (fun k hk => ?_) ?_ hs
  · simp only [Array.getD_eq_getD_getElem?, Array.getElem?_replicate]
    rw [if_pos hk]; rfl
  · have hperm : ∀ (n : Nat) (τ : List Nat), τ.Nodup → (∀ k, k ∈ τ → k < n) → τ.length ≤ n := by
      intro n
      induction n with
      | zero => intro τ _ hk; cases τ with
        | nil => simp
        | cons x τ => exact absurd (hk x List.mem_cons_self) (by omega)
      | succ n ih =>
        intro τ hnd hk
        have h6 : (τ.erase n).length ≤ n := ih _ (hnd.erase n) fun k hk' => by
          have hkm := List.mem_of_mem_erase hk'
          have := hk k hkm
          have : k ≠ n := fun e => by subst e; exact (List.Nodup.not_mem_erase hnd) hk'
          omega
        have := List.length_erase (a := n) (l := τ)
        split at this <;> omega
    exact hperm _ _ hlin.nd fun k hk => (hlin.all k).1 hk
end
end Go.Eng

/-
  ENGINE, PART R: a scope in which the run jumps back to one label.
-/
set_option linter.unusedVariables false
set_option linter.unusedSimpArgs false
namespace Go.Eng
open Go

theorem least {p : Nat → Prop} : ∀ n, p n → ∃ k, p k ∧ ∀ m, m < k → ¬ p m := by
  intro n
  induction n using Nat.strongRecOn with
  | _ n ih =>
    intro hn
    by_cases h : ∃ m, m < n ∧ p m
    · obtain ⟨m, hm, hp⟩ := h; exact ih m hm hp
    · exact ⟨n, hn, fun m hm hp => h ⟨m, hm, hp⟩⟩

def Jmp (l : Nat) (J : Tm → AMem → Prop) (Q : Exit → Tm → AMem → Prop) : Exit → Tm → AMem → Prop
  | .goto l', tm, mem => l' = l ∧ J tm mem
  | e, tm, mem => Q e tm mem

section
variable {P : Program} {nt : Nat} {tm : Tm} {mem : AMem} {Q : Exit → Tm → AMem → Prop}
theorem AW.label {l : Nat} (h : Q .normal tm mem) : AW P nt (.label l) tm mem Q := fun ρ a w hr => by
  have h1 := AW.skip (P := P) (nt := nt) (tm := tm) (mem := mem) (Q := Q) h ρ a w hr
  intro b k cs
  obtain ⟨e, a', w', q, r⟩ := h1 b k cs
  exact ⟨.normal, a, w, ⟨ρ, tm, mem, hr, Step.refl _ _ _, rfl, h⟩, .one step_label⟩
theorem AW.goto {l : Nat} (h : Q (.goto l) tm mem) : AW P nt (.goto l) tm mem Q := fun ρ a w hr b k cs =>
  ⟨.goto l, a, w, ⟨ρ, tm, mem, hr, Step.refl _ _ _, rfl, h⟩, fun k' hk => .one (step_goto hk)⟩

theorem AW.scope {ι : Type} {c rest : Code} (l : Nat) (hf : findLabel c l = some rest) (T : ι → Tm) (M : ι → AMem) (μ : ι → Nat)
    (pass : ∀ i, AW P nt rest (T i) (M i) (Jmp l (fun tm' mem' => ∃ j, μ j < μ i ∧ Weak nt tm' mem' (T j) (M j) ∧ (M i).length ≤ (M j).length) Q))
    (first : AW P nt c tm mem (Jmp l (fun tm' mem' => ∃ j, Weak nt tm' mem' (T j) (M j) ∧ mem.length ≤ (M j).length) Q)) : AW P nt (.scope c) tm mem Q := by
  intro ρ a w hr
  let JJ : Nat → Act → World → Prop := fun n a' w' => ∃ i ρ', μ i = n ∧ Rep ρ' nt (T i) (M i) a' w' ∧ Step mem ρ w (M i) ρ' w' ∧ a'.defers = a.defers ∧ mem.length ≤ (M i).length
  let J : Act → World → Prop := fun a' w' => ∃ n, JJ n a' w'
  have hle : ∀ a' w', ∃ n, J a' w' → JJ n a' w' ∧ ∀ m, m < n → ¬ JJ m a' w' := fun a' w' => by
    by_cases h : J a' w'
    · obtain ⟨n, hn⟩ := h
      obtain ⟨k, h1, h2⟩ := least (p := fun n => JJ n a' w') n hn
      exact ⟨k, fun _ => ⟨h1, h2⟩⟩
    · exact ⟨0, fun h' => absurd h' h⟩
  let μ' : Act → World → Nat := fun a' w' => Classical.choose (hle a' w')
  have hμ : ∀ a' w', J a' w' → JJ (μ' a' w') a' w' ∧ ∀ m, JJ m a' w' → μ' a' w' ≤ m := fun a' w' h => by
    have := Classical.choose_spec (hle a' w') h
    exact ⟨this.1, fun m hm => Nat.le_of_not_lt fun hlt => this.2 m hlt hm⟩
  refine wp_scope_jumps l J μ' hf (wp_mono (first ρ a w hr) ?_) ?_
  · rintro e a' w' ⟨ρ', tm', mem', hr', hs, hd, hq⟩
    cases e with
    | goto l' =>
      obtain ⟨rfl, j, hw, hl⟩ := hq
      obtain ⟨ρ2, hr2, hs2⟩ := hw ρ' a' w' hr'
      exact ⟨rfl, μ j, j, ρ2, rfl, hr2, hs2 _ _ _ hl hs, hd, hl⟩
    | _ => exact ⟨ρ', tm', mem', hr', hs, hd, hq⟩
  · intro a1 w1 hJ
    obtain ⟨⟨i, ρ1, hi, hr1, hs1, hd1, hl1⟩, hmin⟩ := hμ a1 w1 hJ
    refine wp_mono (pass i ρ1 a1 w1 hr1) ?_
    rintro e a' w' ⟨ρ', tm', mem', hr', hs, hd, hq⟩
    cases e with
    | goto l' =>
      obtain ⟨rfl, j, hlt, hw, hl⟩ := hq
      obtain ⟨ρ2, hr2, hs2⟩ := hw ρ' a' w' hr'
      have hl' : mem.length ≤ (M j).length := Nat.le_trans hl1 hl
      have hJJ : JJ (μ j) a' w' := ⟨j, ρ2, rfl, hr2, hs2 _ _ _ hl' (hs1.trans hs), hd.trans hd1, hl'⟩
      have hJ' : J a' w' := ⟨_, hJJ⟩
      refine ⟨rfl, hJ', ?_⟩
      have := (hμ a' w' hJ').2 _ hJJ
      omega
    | _ => exact ⟨ρ', tm', mem', hr', hs1.trans hs, hd.trans hd1, hq⟩

/-- The fall into the label: what holds of every pass holds of this one. -/
theorem AW.fall {ι : Type} {c : Code} {l : Nat} {T : ι → Tm} {M : ι → AMem} {μ : ι → Nat} {L : Nat} (i : ι) (hw : Weak nt tm mem (T i) (M i)) (hlen : mem.length ≤ (M i).length) (hL : L ≤ (M i).length)
    (h : AW P nt c (T i) (M i) (Jmp l (fun tm' mem' => ∃ j, μ j < μ i ∧ Weak nt tm' mem' (T j) (M j) ∧ (M i).length ≤ (M j).length) Q)) :
    AW P nt c tm mem (Jmp l (fun tm' mem' => ∃ j, Weak nt tm' mem' (T j) (M j) ∧ L ≤ (M j).length) Q) := by
  intro ρ a w hr
  obtain ⟨ρ', hr', hs⟩ := hw ρ a w hr
  refine wp_mono (h ρ' a w hr') ?_
  rintro e a' w' ⟨ρ2, tm2, mem2, hr2, hs2, hd, hq⟩
  refine ⟨ρ2, tm2, mem2, hr2, (hs mem ρ w hlen (Step.refl _ _ _)).trans hs2, hd, ?_⟩
  cases e with
  | goto l' => obtain ⟨rfl, j, _, hw2, hl2⟩ := hq; exact ⟨rfl, j, hw2, Nat.le_trans hL hl2⟩
  | _ => exact hq

theorem AW.scopeI {ι : Type} {c R : Code} (l : Nat) (hf : findLabel c l = some (.seq .skip R)) (I : ι → Prop) (T : ι → Tm) (M : ι → AMem) (μ : ι → Nat)
    (pass : ∀ i, I i → AW P nt R (T i) (M i) (Jmp l (fun tm' mem' => ∃ j, I j ∧ μ j < μ i ∧ Weak nt tm' mem' (T j) (M j) ∧ (M i).length ≤ (M j).length) Q))
    (first : (∀ i, I i → AW P nt R (T i) (M i) (Jmp l (fun tm' mem' => ∃ j, I j ∧ μ j < μ i ∧ Weak nt tm' mem' (T j) (M j) ∧ (M i).length ≤ (M j).length) Q)) →
      ∀ J : Tm → AMem → Prop, (∀ j tm' mem', I j → Weak nt tm' mem' (T j) (M j) → mem.length ≤ (M j).length → J tm' mem') → AW P nt c tm mem (Jmp l J Q)) : AW P nt (.scope c) tm mem Q := by
  refine AW.scope (ι := { i // I i }) l hf (fun i => T i.1) (fun i => M i.1) (fun i => μ i.1) (fun i => ?_) ?_
  · refine AW.seq (AW.skip ?_)
    refine (pass i.1 i.2).mono fun e tm' mem' hq => ?_
    cases e with
    | goto l' => obtain ⟨rfl, j, hj, h1, h2, h3⟩ := hq; exact ⟨rfl, ⟨j, hj⟩, h1, h2, h3⟩
    | _ => exact hq
  · refine (first pass (fun tm' mem' => ∃ j, I j ∧ Weak nt tm' mem' (T j) (M j) ∧ mem.length ≤ (M j).length) fun j _ _ h1 h2 h3 => ⟨j, h1, h2, h3⟩).mono fun e tm' mem' hq => ?_
    cases e with
    | goto l' => obtain ⟨rfl, j, hj, h2, h3⟩ := hq; exact ⟨rfl, ⟨j, hj⟩, h2, h3⟩
    | _ => exact hq
theorem AW.fallI {ι : Type} {R : Code} {l : Nat} {I : ι → Prop} {T : ι → Tm} {M : ι → AMem} {μ : ι → Nat} {L : Nat} {J : Tm → AMem → Prop}
    (pass : ∀ i, I i → AW P nt R (T i) (M i) (Jmp l (fun tm' mem' => ∃ j, I j ∧ μ j < μ i ∧ Weak nt tm' mem' (T j) (M j) ∧ (M i).length ≤ (M j).length) Q))
    (hJ : ∀ j tm' mem', I j → Weak nt tm' mem' (T j) (M j) → L ≤ (M j).length → J tm' mem')
    (i : ι) (hi : I i) (hlen : mem.length ≤ (M i).length) (hL : L ≤ (M i).length) (hw : Weak nt tm mem (T i) (M i)) :
    AW P nt (.seq (.label l) R) tm mem (Jmp l J Q) := by
  refine AW.seq (AW.label ?_)
  intro ρ a w hr
  obtain ⟨ρ', hr', hs⟩ := hw ρ a w hr
  refine wp_mono (pass i hi ρ' a w hr') ?_
  rintro e a' w' ⟨ρ2, tm2, mem2, hr2, hs2, hd, hq⟩
  refine ⟨ρ2, tm2, mem2, hr2, (hs mem ρ w hlen (Step.refl _ _ _)).trans hs2, hd, ?_⟩
  cases e with
  | goto l' => obtain ⟨rfl, j, hj, _, hw2, hl2⟩ := hq; exact ⟨rfl, hJ j _ _ hj hw2 (Nat.le_trans hL hl2)⟩
  | _ => exact hq
theorem Jmp_n {l : Nat} {J : Tm → AMem → Prop} {tm' : Tm} {m' : AMem} (h : Q .normal tm' m') : Jmp l J Q .normal tm' m' := h
theorem Jmp_r {l : Nat} {J : Tm → AMem → Prop} {tm' : Tm} {m' : AMem} (h : Q .ret tm' m') : Jmp l J Q .ret tm' m' := h
theorem Jmp_e {l id : Nat} {J : Tm → AMem → Prop} {tm' : Tm} {m' : AMem} (h : Q (.exit id) tm' m') : Jmp l J Q (.exit id) tm' m' := h
theorem Jmp_g {l : Nat} {J : Tm → AMem → Prop} {tm' : Tm} {m' : AMem} (h : J tm' m') : Jmp l J Q (.goto l) tm' m' := ⟨rfl, h⟩
theorem Thn_g {K : Tm → AMem → Prop} {tm' : Tm} {m' : AMem} {l : Nat} (h : Q (.goto l) tm' m') : Thn K Q (.goto l) tm' m' := h
theorem InB_g {id : Nat} {tm' : Tm} {m' : AMem} {l : Nat} (h : Q (.goto l) tm' m') : InB id Q (.goto l) tm' m' := h
end
end Go.Eng

/-
  ENGINE, PART S: the machine of part O, with scopes in which the run jumps back to a label.
-/
set_option linter.unusedVariables false
set_option linter.unusedSimpArgs false
namespace Go.Eng
open Go

def rJump (run : Code → Tm → AMem → Option (Exit × Tm × AMem)) (l : Nat) (rest : Code) : Nat → Tm → AMem → Option (Exit × Tm × AMem)
  | 0, _, _ => none
  | n + 1, tm, mem => match run rest tm mem with
    | some (.goto l', tm', mem') => if l' = l ∧ mem.length ≤ mem'.length then rJump run l rest n tm' mem' else none
    | r => r

section
variable (P : Program) (call : Caller) (pls : Nat → List Plan) (nt L : Nat) (jump : Code → Tm → AMem → Option (Exit × Tm × AMem))
def rCodeS : Code → Tm → AMem → Option (Exit × Tm × AMem)
  | .skip, tm, mem => some (.normal, tm, mem)
  | .ret, tm, mem => some (.ret, tm, mem)
  | .exit id, tm, mem => some (.exit id, tm, mem)
  | .seq x y, tm, mem => match rCodeS x tm mem with
    | some (.normal, tm', mem') => rCodeS y tm' mem'
    | r => r
  | .block id c, tm, mem => match rCodeS c tm mem with
    | some (.exit id', tm', mem') => if id' = id then some (.normal, tm', mem') else some (.exit id', tm', mem')
    | r => r
  | .cond c x y, tm, mem => match opd tm c with
    | .one (.bool true) => rCodeS x tm mem
    | .one (.bool false) => rCodeS y tm mem
    | _ => none
  | .loop c, tm, mem => rLoop (rCodeS c) L tm mem
  | .region id ops false, tm, mem => if ops.toList.all (dstOk nt) = true then (rOps P call ops ops.toList tm mem).map fun x => (.normal, x.1, x.2) else none
  | .region id ops true, tm, mem => if (pls id).length = ops.toList.length ∧ planOk nt (ops.toList.zip (pls id)) = true then
      (rOpsD P call ops (ops.toList.zip (pls id)) tm mem [mem] []).map fun x => (.normal, x.1, x.2) else none
  | .label l, tm, mem => some (.normal, tm, mem)
  | .goto l, tm, mem => some (.goto l, tm, mem)
  | .scope c, tm, mem => match rCodeS c tm mem with
    | some (.goto l, tm', mem') => match findLabel c l with
      | some rest => if mem.length ≤ mem'.length then rJump jump l rest L tm' mem' else none
      | none => none
    | r => r
  | _, _, _ => none
end

def rFuncS (P : Program) (pls : Nat → Nat → List Plan) (L : Nat) : Nat → Caller
  | 0, _, _, _ => none
  | n + 1, g, args, mem => match P.funcs[g]? with
    | some fn => match fn.body with
      | some c => if (fn.name == "runtime.NumGoroutine") = false then
          match rCodeS P (rFuncS P pls L n) (pls g) fn.ntmps L (rCodeS P (rFuncS P pls L n) (pls g) fn.ntmps L (fun _ _ _ => none)) c (enterTm 0 args) mem with
          | some (.normal, tm, m) => (resA P fn.results.toList tm m).map fun x => (x, m)
          | some (.ret, tm, m) => (resA P fn.results.toList tm m).map fun x => (x, m)
          | _ => none
        else none
      | none => none
    | none => none


/-- So many passes more from the label. -/
def Rn (P : Program) (nt l : Nat) (rest : Code) (Q : Exit → Tm → AMem → Prop) : Nat → Tm → AMem → Prop
  | 0, _, _ => False
  | n + 1, tm, mem => AW P nt rest tm mem (Jmp l (fun tm' mem' => mem.length ≤ mem'.length ∧ Rn P nt l rest Q n tm' mem') Q)
def JumpOk (P : Program) (nt : Nat) (jump : Code → Tm → AMem → Option (Exit × Tm × AMem)) : Prop :=
  ∀ c tm mem ex tm' mem' (Q : Exit → Tm → AMem → Prop), jump c tm mem = some (ex, tm', mem') → Q ex tm' mem' → AW P nt c tm mem Q
section
variable {P : Program} {call : Caller} {pls : Nat → List Plan} {nt L : Nat}
theorem rJump_ok {jump : Code → Tm → AMem → Option (Exit × Tm × AMem)} (hj : JumpOk P nt jump) {l : Nat} {rest : Code} : ∀ (n : Nat) (tm : Tm) (mem : AMem) (ex : Exit) (tm' : Tm) (mem' : AMem) (Q : Exit → Tm → AMem → Prop),
    rJump jump l rest n tm mem = some (ex, tm', mem') → Q ex tm' mem' → Rn P nt l rest Q n tm mem
  | 0, _, _, _, _, _, _, h, _ => by cases h
  | n + 1, tm, mem, ex, tm', mem', Q, h, hq => by
    simp only [rJump] at h
    rw [Rn]
    split at h
    · rename_i l' tm1 mem1 h1
      split at h
      · rename_i hle
        obtain ⟨rfl, hle⟩ := hle
        exact hj _ _ _ _ _ _ _ h1 ⟨rfl, hle, rJump_ok hj n _ _ _ _ _ Q h hq⟩
      · cases h
    · rename_i r hne
      refine hj _ _ _ _ _ _ _ h ?_
      cases ex with
      | goto l' => exact absurd h (hne _ _ _)
      | _ => exact hq
theorem Weak.rfl0 {tm : Tm} {mem : AMem} : Weak nt tm mem tm mem := fun ρ a w hr => ⟨ρ, hr, fun _ _ _ _ h => h⟩
theorem AW.scopeNo {c : Code} {tm : Tm} {mem : AMem} {Q : Exit → Tm → AMem → Prop} (h : AW P nt c tm mem (fun e tm' mem' => (∀ l, e ≠ .goto l) ∧ Q e tm' mem')) : AW P nt (.scope c) tm mem Q := by
  intro ρ a w hr
  refine wp_scope_straight (wp_mono (h ρ a w hr) ?_)
  rintro e a' w' ⟨ρ', tm', mem', hr', hs, hd, hne, hq⟩
  cases e with
  | goto l' => exact absurd rfl (hne l')
  | _ => exact ⟨ρ', tm', mem', hr', hs, hd, hq⟩
theorem AW.scopeRun {c rest : Code} {tm : Tm} {mem : AMem} {Q : Exit → Tm → AMem → Prop} (l : Nat) (hf : findLabel c l = some rest) (n : Nat)
    (h : AW P nt c tm mem (Jmp l (fun tm' mem' => mem.length ≤ mem'.length ∧ Rn P nt l rest Q n tm' mem') Q)) : AW P nt (.scope c) tm mem Q := by
  refine AW.scope (ι := { x : Nat × Tm × AMem // Rn P nt l rest Q x.1 x.2.1 x.2.2 }) l hf (fun x => x.1.2.1) (fun x => x.1.2.2) (fun x => x.1.1) (fun x => ?_) ?_
  · obtain ⟨⟨n, tm1, mem1⟩, hx⟩ := x
    cases n with
    | zero => exact hx.elim
    | succ n =>
      refine AW.mono hx fun e tm' mem' hq => ?_
      cases e with
      | goto l' => obtain ⟨rfl, hle, hr⟩ := hq; exact ⟨rfl, ⟨(n, tm', mem'), hr⟩, Nat.lt_succ_self n, Weak.rfl0, hle⟩
      | _ => exact hq
  · refine h.mono fun e tm' mem' hq => ?_
    cases e with
    | goto l' => obtain ⟨rfl, hle, hr⟩ := hq; exact ⟨rfl, ⟨(n, tm', mem'), hr⟩, Weak.rfl0, hle⟩
    | _ => exact hq
theorem rCodeS_ok (hc : CallOk P call) {jump : Code → Tm → AMem → Option (Exit × Tm × AMem)} (hj : JumpOk P nt jump) (hfol : P.follows .mixedOrders = true) : ∀ (c : Code) (tm : Tm) (mem : AMem) (ex : Exit) (tm' : Tm) (mem' : AMem) (Q : Exit → Tm → AMem → Prop),
    rCodeS P call pls nt L jump c tm mem = some (ex, tm', mem') → Q ex tm' mem' → AW P nt c tm mem Q := by
  intro c
  induction c with
  | skip => intro tm mem ex tm' mem' Q h hq; simp only [rCodeS, Option.some.injEq, Prod.mk.injEq] at h; obtain ⟨rfl, rfl, rfl⟩ := h; exact AW.skip hq
  | ret => intro tm mem ex tm' mem' Q h hq; simp only [rCodeS, Option.some.injEq, Prod.mk.injEq] at h; obtain ⟨rfl, rfl, rfl⟩ := h; exact AW.ret hq
  | exit id => intro tm mem ex tm' mem' Q h hq; simp only [rCodeS, Option.some.injEq, Prod.mk.injEq] at h; obtain ⟨rfl, rfl, rfl⟩ := h; exact AW.exit hq
  | seq x y ihx ihy =>
    intro tm mem ex tm' mem' Q h hq
    simp only [rCodeS] at h
    split at h
    · rename_i tm1 mem1 h1
      exact AW.seq (ihx _ _ _ _ _ _ h1 (ihy _ _ _ _ _ _ h hq))
    · rename_i r hne
      have hex : ex ≠ .normal := by rintro rfl; exact hne _ _ h
      refine AW.seq (ihx _ _ _ _ _ _ h ?_)
      cases ex with
      | normal => exact absurd rfl hex
      | _ => exact hq
  | block id c ih =>
    intro tm mem ex tm' mem' Q h hq
    simp only [rCodeS] at h
    refine AW.block ?_
    split at h
    · rename_i id' tm1 mem1 h1
      refine ih _ _ _ _ _ _ h1 ?_
      split at h
      · rename_i he
        simp only [Option.some.injEq, Prod.mk.injEq] at h; obtain ⟨rfl, rfl, rfl⟩ := h
        subst he; exact InB_here hq
      · rename_i he
        simp only [Option.some.injEq, Prod.mk.injEq] at h; obtain ⟨rfl, rfl, rfl⟩ := h
        exact InB_far he hq
    · rename_i r hne
      refine ih _ _ _ _ _ _ h ?_
      cases ex with
      | exit id' => exact absurd h (hne _ _ _)
      | _ => exact hq
  | cond c x y ihx ihy =>
    intro tm mem ex tm' mem' Q h hq
    simp only [rCodeS] at h
    split at h
    · rename_i hb; exact AW.cond_t hb (ihx _ _ _ _ _ _ h hq)
    · rename_i hb; exact AW.cond_f hb (ihy _ _ _ _ _ _ h hq)
    · cases h
  | loop c ih =>
    intro tm mem ex tm' mem' Q h hq
    simp only [rCodeS] at h
    exact AW.rounds L (rLoop_ok ih _ _ _ _ _ _ _ h hq)
  | region id ops b =>
    intro tm mem ex tm' mem' Q h hq
    cases b with
    | false =>
      simp only [rCodeS] at h
      split at h
      · rename_i hd
        simp only [Option.map_eq_some_iff, Prod.mk.injEq] at h
        obtain ⟨⟨tm1, mem1⟩, h1, rfl, rfl, rfl⟩ := h
        have h2 : AOps P ops ops.toList tm mem (Q .normal) := rOps_ok hc _ _ _ _ _ _ h1 hq
        have h3 := AW.region (P := P) (nt := nt) (id := id) (l := ops.toList) (tm := tm) (mem := mem) (Q := Q) hd (by simpa using h2)
        simpa using h3
      · cases h
    | true =>
      simp only [rCodeS] at h
      split at h
      · rename_i hd
        simp only [Option.map_eq_some_iff, Prod.mk.injEq] at h
        obtain ⟨⟨tm1, mem1⟩, h1, rfl, rfl, rfl⟩ := h
        have h2 := rOpsD_ok hc _ _ _ _ _ _ _ (Q .normal) h1 hq
        have h3 := AW.draw (P := P) (nt := nt) (id := id) (l := ops.toList) (tm := tm) (mem := mem) (Q := Q) (pls id) hfol hd.1 hd.2 (by simpa using h2)
        simpa using h3
      · cases h
  | label l => intro tm mem ex tm' mem' Q h hq; simp only [rCodeS, Option.some.injEq, Prod.mk.injEq] at h; obtain ⟨rfl, rfl, rfl⟩ := h; exact AW.label hq
  | goto l => intro tm mem ex tm' mem' Q h hq; simp only [rCodeS, Option.some.injEq, Prod.mk.injEq] at h; obtain ⟨rfl, rfl, rfl⟩ := h; exact AW.goto hq
  | scope c ih =>
    intro tm mem ex tm' mem' Q h hq
    simp only [rCodeS] at h
    split at h
    · rename_i l tm1 mem1 h1
      split at h
      · rename_i rest hf
        split at h
        · rename_i hle
          have h2 := rJump_ok hj L tm1 mem1 ex tm' mem' Q h hq
          exact AW.scopeRun l hf L (ih _ _ _ _ _ (Jmp l (fun tm' mem' => mem.length ≤ mem'.length ∧ Rn P nt l rest Q L tm' mem') Q) h1 ⟨rfl, hle, h2⟩)
        · cases h
      · cases h
    · rename_i r hne
      exact AW.scopeNo (ih _ _ _ _ _ _ h ⟨fun l e => by subst e; exact hne _ _ _ h, hq⟩)
  | _ => intro tm mem ex tm' mem' Q h hq; simp only [rCodeS] at h; cases h
end
theorem rFuncS_ok {P : Program} {pls : Nat → Nat → List Plan} {L : Nat} (hfol : P.follows .mixedOrders = true) : ∀ n : Nat, CallOk P (rFuncS P pls L n)
  | 0 => fun g args mem ret mem' h => by cases h
  | n + 1 => fun g args mem ret mem' h => by
    simp only [rFuncS] at h
    split at h
    · rename_i fn hfn
      split at h
      · rename_i c hb
        split at h
        · rename_i hname
          have ok := rFuncS_ok (P := P) (pls := pls) (L := L) hfol n
          split at h
          · rename_i tm m hr
            simp only [Option.map_eq_some_iff, Prod.mk.injEq] at h
            obtain ⟨x, hx, rfl, rfl⟩ := h
            exact Ctr.of_body hfn hb hname fun hw => rCodeS_ok ok (rCodeS_ok ok (fun c tm mem ex tm' mem' Q h _ => by cases h) hfol) hfol _ _ _ _ _ _ _ hr ⟨.inl rfl, x, hx, Hands.all⟩
          · rename_i tm m hr
            simp only [Option.map_eq_some_iff, Prod.mk.injEq] at h
            obtain ⟨x, hx, rfl, rfl⟩ := h
            exact Ctr.of_body hfn hb hname fun hw => rCodeS_ok ok (rCodeS_ok ok (fun c tm mem ex tm' mem' Q h _ => by cases h) hfol) hfol _ _ _ _ _ _ _ hr ⟨.inr rfl, x, hx, Hands.all⟩
          · cases h
        · cases h
      · cases h
    · cases h

/-- A call whose arguments are known, reckoned by the machine. -/
theorem Ctr.runS {P : Program} {f : FuncId} {args : List AV} {ret : AV} (pls : Nat → Nat → List Plan) (L n : Nat) (hfol : P.follows .mixedOrders = true) (h : ((rFuncS P pls L n f args []).map (·.1)) = some ret) (ha : ∀ a, a ∈ args → a.below 0 = true) (hr : ret.below 0 = true) (m : AMem) : Ctr P f args m ret m := by
  rw [Option.map_eq_some_iff] at h
  obtain ⟨⟨x, mem'⟩, h1, rfl⟩ := h
  exact Ctr.closed (rFuncS_ok hfol n _ _ _ _ _ h1) ha hr m
end Go.Eng

/-
  ENGINE, PART T: a row of our own is cut short (what lies behind is spare).
-/
set_option linter.unusedVariables false
namespace Go.Eng
open Go
variable {P : Program} {nt : Nat} {tm : Tm} {mem : AMem}
theorem All2.take_left {α β : Type} {R : α → β → Prop} : ∀ {xa : List α} {bs : List β} (k : Nat), All2 R xa bs → ∃ xs sp, bs = xs ++ sp ∧ All2 R (xa.take k) xs
  | xa, bs, 0, _ => ⟨[], bs, rfl, by rw [List.take_zero]; trivial⟩
  | [], [], _ + 1, _ => ⟨[], [], rfl, trivial⟩
  | a :: xa, b :: bs, k + 1, h => by
    obtain ⟨xs, sp, e, h2⟩ := All2.take_left k h.2
    exact ⟨b :: xs, sp, by rw [e]; rfl, h.1, h2⟩
theorem BlkR.cut {ρ : Env} {w : World} {r : Nat} {b : Blk} (hb : BlkR ρ w r b) (hk : b.kind = .grow) (k : Nat) : BlkR ρ w r { b with cells := b.cells.take k } := by
  obtain ⟨kind, ty, ver, esz, cells⟩ := b
  simp only at hk
  subst hk
  rcases hb with ⟨h1, h2⟩ | ⟨n, c, cap, xs, sp, h1, h2, h3, h4, h5, h6⟩
  · simp only at h1; subst h1; exact .inl ⟨by simp, h2⟩
  · obtain ⟨ys, tp, e, h7⟩ := All2.take_left k h6
    exact .inr ⟨n, c, cap, ys, tp ++ sp, h1, h2, h3, h4, by rw [h5, e, List.append_assoc], h7⟩
theorem AW.cut {c : Code} {Q : Exit → Tm → AMem → Prop} (r k : Nat) {b : Blk} (hb : mem[r]? = some b) (hk : b.kind = .grow)
    (h : AW P nt c tm (mem.set r { b with cells := b.cells.take k }) Q) : AW P nt c tm mem Q := by
  intro ρ a w hr
  have hrl := (List.getElem?_eq_some_iff.1 hb).1
  have hgt : ∀ {s : Nat} {d : Blk}, (mem.set r { b with cells := b.cells.take k })[s]? = some d → (s ≠ r ∧ mem[s]? = some d) ∨ (s = r ∧ d = { b with cells := b.cells.take k }) := by
    intro s d hd
    by_cases hs : s = r
    · subst hs; rw [List.getElem?_set_self hrl] at hd; injection hd with hd; exact .inr ⟨rfl, hd.symm⟩
    · rw [List.getElem?_set_ne (fun e => hs e.symm)] at hd; exact .inl ⟨hs, hd⟩
  have hold : ∀ {s : Nat} {d : Blk}, (mem.set r { b with cells := b.cells.take k })[s]? = some d → ∃ d0, mem[s]? = some d0 ∧ d0.kind = d.kind ∧ d0.ver = d.ver ∧ (d.kind = .ro → d0 = d) := by
    intro s d hd
    rcases hgt hd with ⟨_, h1⟩ | ⟨e1, e2⟩
    · exact ⟨d, h1, rfl, rfl, fun _ => rfl⟩
    · subst e1; subst e2; exact ⟨b, hb, rfl, rfl, fun h => by rw [hk] at h; cases h⟩
  have hm : RepM ρ (mem.set r { b with cells := b.cells.take k }) w := by
    refine ⟨fun s d hd => ?_, fun s v hs => hr.mem.dom s v (by simpa using hs), fun s d v hd hv => ?_, fun s t d e hd he hne hkd hke x y i j hx hy => ?_⟩
    · rcases hgt hd with ⟨_, h1⟩ | ⟨e1, e2⟩
      · exact hr.mem.blk s d h1
      · subst e1; subst e2; exact (hr.mem.blk s b hb).cut hk k
    · obtain ⟨d0, h1, _, h3, _⟩ := hold hd
      exact hr.mem.domv s d0 v h1 (by omega)
    · obtain ⟨d0, h1, h2, h3, _⟩ := hold hd
      obtain ⟨e0, g1, g2, g3, g4⟩ := hold he
      refine hr.mem.sep s t d0 e0 h1 g1 hne (by rw [h2]; exact hkd) (fun hro => ?_) x y i j (by rw [h3]; exact hx) (by rw [g3]; exact hy)
      rw [g4 (by rw [← g2]; exact hro)]; exact hke (by rw [← g2]; exact hro)
  refine wp_mono (h ρ a w ⟨hr.size, hr.tm, hm⟩) ?_
  rintro e a' w' ⟨ρ2, tm2, mem2, hr2, hs2, hd, hq⟩
  refine ⟨ρ2, tm2, mem2, hr2, ?_, hd, hq⟩
  refine ⟨hs2.os, hs2.tape, hs2.output, hs2.size, by have := hs2.len; simpa using this, fun s hs v x hx => hs2.ext s (by simpa using hs) v x hx, fun s d d' h1 h2 => ?_, fun s d' h1 h2 => ?_, fun n hn hne => ?_, fun s d' x i h1 h2 h3 => ?_⟩
  · by_cases hs : s = r
    · subst hs
      rw [hb] at h1; injection h1 with h1; subst h1
      exact hs2.kind s { b with cells := b.cells.take k } d' (List.getElem?_set_self hrl) h2
    · exact hs2.kind s d d' (by rw [List.getElem?_set_ne (fun e => hs e.symm)]; exact h1) h2
  · have := hs2.ro s d' h1 h2
    rcases hgt this with ⟨_, h3⟩ | ⟨e1, e2⟩
    · exact h3
    · subst e2; rw [hk] at h2; cases h2
  · refine hs2.frame n hn fun s d x i h1 h2 h3 => ?_
    obtain ⟨d0, g1, g2, g3, _⟩ := hold h1
    exact hne s d0 x i g1 (by rw [g2]; exact h2) (by rw [g3]; exact h3)
  · rcases hs2.fresh s d' x i h1 h2 h3 with h | ⟨t, d, y, l, h1, h2, h3, h4⟩
    · exact .inl h
    · obtain ⟨d0, g1, g2, g3, _⟩ := hold h1
      exact .inr ⟨t, d0, y, l, g1, by rw [g2]; exact h2, by rw [g3]; exact h3, h4⟩
end Go.Eng

/-
  ENGINE, PART U: a row held against nil, of which nothing more is known; a nil row taken as one of our own, of any version.
-/
set_option linter.unusedVariables false
namespace Go.Eng
open Go
variable {P : Program}
theorem aops_app {nt : Nat} {ops : Array Oper} {last : List Oper} : ∀ (l : List Oper) (tm : Tm) (mem : AMem) (K : Tm → AMem → Prop), l.all (dstOk nt) = true → AOps P ops l tm mem K →
    ∀ (ρ : Env) (a : Act) (w : World) (Q : Exit → Act → World → Prop), Rep ρ nt tm mem a w →
      (∀ ρ' tm' mem' a' w', Rep ρ' nt tm' mem' a' w' → Step mem ρ w mem' ρ' w' → a'.defers = a.defers → K tm' mem' → wpList P ops Q last a' w') → wpList P ops Q (l ++ last) a w
  | [], tm, mem, K, _, h, ρ, a, w, Q, hr, hQ => hQ ρ tm mem a w hr (Step.refl _ _ _) rfl h
  | o :: rest, tm, mem, K, hd, h, ρ, a, w, Q, hr, hQ => by
    simp only [List.all_cons, Bool.and_eq_true] at hd
    have hdef : ∀ v, (a.put o.dst v).defers = a.defers := fun v => by cases o.dst <;> rfl
    simp only [AOps] at h
    rw [List.cons_append]
    unfold wpList
    split at h
    · rename_i hw
      rw [if_pos (wantedA_sound hr hw)]
      refine .inl ?_
      unfold Oper.wp
      split at h
      · rename_i t x y hop
        split at h
        · rename_i mem' hs
          obtain ⟨w', hrun, hm, hst⟩ := run_storeA P hr.mem hs (hr.opd x) (hr.opd y)
          have he : (execOp a.eval o).run P w = .ok .skip w' := by rw [ex_store hop]; simp only [Sem.run_bind, hrun, Result.andThen_ok, Sem.run_pure]
          rw [he, Oper.upon_skip]
          refine aops_app rest _ mem' K hd.2 h ρ _ w' Q ((hr.step hst hm).putO hd.1 (x := .one .und) rfl) fun ρ' tm' mem'' a' w'' r s d k => hQ ρ' tm' mem'' a' w'' r (hst.trans s) (d.trans (hdef _)) k
        · exact h.elim
      · rename_i f args ts hop
        split at h
        · rename_i g cs hf
          obtain ⟨ret, mem', hg, h⟩ := h
          have hfv := hr.opd f
          rw [hf] at hfv
          obtain ⟨vs, hfe, hcaps⟩ := hfv
          have hargs : All2 (VR ρ) (args.toList.map (opd tm)) (args.toList.map a.eval) := All2_map (fun y => hr.opd y) args.toList
          have hc := hg ρ w _ hr.mem (hargs.append (capsAV_sound hcaps))
          have hea : (args.toList.map a.eval ++ vs.toList).toArray = args.map a.eval ++ vs := by
            apply Array.ext'; simp
          rw [hea] at hc
          have he0 : (execOp a.eval o).run P w = (callFunc g (args.map a.eval ++ vs)).run P w := by
            rw [ex_call hop]
            simp only [resolve, hfe, Deferred.ofValue, Sem.run_bind, Sem.run_pure, Result.andThen_ok, invoke, Array.empty_append]
          rcases hc with ⟨⟨fn, hfn, hname, hbody⟩, hc⟩ | ⟨v, w', hrun, v', ρ', he', hv, hm, hst⟩
          · have he : (execOp a.eval o).run P w = .ok (.enter g (args.map a.eval ++ vs)) w := by
              rw [he0]
              simp only [Sem.run_bind, Sem.run_pure, Result.andThen_ok, callFunc, run_program, hfn, hname, hbody, Bool.false_eq_true, if_false]
            rw [he, Oper.upon_enter]
            refine hc.mono fun e w' ⟨v, ρ', he', hv, hm, hst⟩ => ?_
            subst he'
            exact aops_app rest _ mem' K hd.2 h ρ' _ w' Q ((hr.step hst hm).putO hd.1 hv) fun ρ'' tm' mem'' a' w'' r s d k => hQ ρ'' tm' mem'' a' w'' r (hst.trans s) (d.trans (hdef _)) k
          · injection he' with he'; subst he'
            rw [he0, hrun, Oper.upon_value]
            exact aops_app rest _ mem' K hd.2 h ρ' _ w' Q ((hr.step hst hm).putO hd.1 hv) fun ρ'' tm' mem'' a' w'' r s d k => hQ ρ'' tm' mem'' a' w'' r (hst.trans s) (d.trans (hdef _)) k
        · exact h.elim
      · split at h
        · rename_i x mem' hv
          obtain ⟨v, w', ρ', hrun, hvr, hm, hst⟩ := evVal_sound hr hv
          have hup : ∀ K', Oper.upon P o a K' Q ((execOp a.eval o).run P w) = K' (a.put o.dst v) w' := fun K' => by
            rcases hrun with hrun | ⟨hrun, rfl⟩
            · rw [hrun, Oper.upon_value]
            · rw [hrun, Oper.upon_skip]
          rw [hup]
          exact aops_app rest _ mem' K hd.2 h ρ' _ w' Q ((hr.step hst hm).putO hd.1 hvr) fun ρ'' tm' mem'' a' w'' r s d k => hQ ρ'' tm' mem'' a' w'' r (hst.trans s) (d.trans (hdef _)) k
        · exact h.elim
    · rename_i hw
      rw [if_neg (by rw [wantedA_sound hr hw]; simp)]
      exact aops_app rest _ mem K hd.2 h ρ _ w Q (hr.putO hd.1 (x := .one .und) rfl) fun ρ'' tm' mem'' a' w'' r s d k => hQ ρ'' tm' mem'' a' w'' r s (d.trans (hdef _)) k
    · exact h.elim


def nilEqA (P : Program) (f : Operand → AV) : Op → Bool
  | .binOp .eql t x y _ => match P.underlying t, f x, f y with
    | some (.slice _), .one (.sl _ _ _ _), .one .nils => true
    | _, _, _ => false
  | _ => false
theorem run_eqNil {ρ : Env} {t e : TypeId} {r v off len : Nat} {u x : Value} (ht : P.underlying t = some (.slice e)) (hx : VR ρ (.one (.sl r v off len)) u) (hy : VR ρ (.one .nils) x) (o1 o2 : Operand) (w : World) :
    ∃ b, ((do eqGuard .eql t o1 o2 u x; binOp .eql t u x) : Sem Value).run P w = .ok (.bool b) w := by
  have e2 : x = _ := hy
  subst e2
  obtain ⟨A, c0, B, c, _, rfl, _, _, _⟩ := hx
  refine ⟨B.isNone, ?_⟩
  cases B with
  | none => exact (eq_pair P (fun op h => by rw [eqGuard_at_slice]; rfl) rfl rfl (fun d => by simp [Op.equalIn, run_underlying ht])).1
  | some a => exact (eq_pair P (fun op h => by rw [eqGuard_at_slice]; rfl) rfl rfl (fun d => by simp [Op.equalIn, run_underlying ht])).1
variable {nt : Nat} {tm : Tm} {mem : AMem}
theorem AW.eqNil {id : Nat} {o1 o2 : Oper} {Q : Exit → Tm → AMem → Prop} (hd : [o1, o2].all (dstOk nt) = true)
    (h : AOps P [o1, o2].toArray [o1] tm mem fun tm' mem' => wantedA [o1, o2].toArray o2 tm' = some true ∧ nilEqA P (opd tm') o2.op = true ∧ ∀ b, Q .normal (putO o2.dst (.one (.bool b)) tm') mem') :
    AW P nt (.region id [o1, o2].toArray false) tm mem Q := by
  intro ρ a w hr
  refine wp_region_lit ?_
  simp only [List.all_cons, List.all_nil, Bool.and_true, Bool.and_eq_true] at hd
  refine aops_app (last := [o2]) [o1] tm mem _ (by simp [hd.1]) h ρ a w _ hr fun ρ' tm' mem' a' w' r s d k => ?_
  obtain ⟨hw, hn, hq⟩ := k
  unfold wpList
  rw [if_pos (wantedA_sound r hw)]
  refine .inl ?_
  unfold nilEqA at hn
  split at hn
  · rename_i t x y yt hop
    split at hn
    · rename_i e rr vv oo ll ht hx hy
      have h1 := r.opd x
      have h2 := r.opd y
      rw [hx] at h1
      rw [hy] at h2
      obtain ⟨b, hb⟩ := run_eqNil ht h1 h2 x y w'
      have he : (execOp a'.eval o2).run P w' = .ok (.value (.bool b)) w' := by
        rw [ex_binOp hop]
        simp only [Sem.run_bind] at hb ⊢
        rw [hb]; rfl
      unfold Oper.wp
      rw [he, Oper.upon_value]
      unfold wpList
      exact ⟨ρ', _, mem', r.putO hd.2 (x := .one (.bool b)) rfl, s, by cases o2.dst <;> exact d, hq b⟩
    · cases hn
  · cases hn
theorem nil_rowV {ver : Nat} {ρ : Env} {L : Nat} {v : Value} (h : VC ρ .nils v) : VC (ρ.set L ver (none, 0)) (.sl L ver 0 0) v := by
  have e : v = .slice none 0 0 := h
  subst e
  exact ⟨none, 0, none, 0, Env.set_same _ _ _ _, rfl, Nat.le_refl _, fun h => by omega, fun _ => ⟨rfl, rfl⟩⟩

theorem Rep.nilRowV (ver : Nat) {ρ : Env} {a : Act} {w : World} (hr : Rep ρ nt tm mem a w) (ty esz : Nat) (mem1 : AMem) (hlen : mem1.length = mem.length) (hk : ∀ (r : Nat) (b1 : Blk), mem1[r]? = some b1 → ∃ b, mem[r]? = some b ∧ b1.kind = b.kind ∧ b1.ver = b.ver ∧ (b.kind = .ro → b1 = b))
    (hb : ∀ (r : Nat) (b1 : Blk), mem1[r]? = some b1 → BlkR (ρ.set mem.length ver (none, 0)) w r b1) (tm1 : Tm) (ht : ∀ i, VR (ρ.set mem.length ver (none, 0)) (Tm.get tm1 i) (a.tmps.getD i undef)) :
    Rep (ρ.set mem.length ver (none, 0)) nt tm1 (mem1 ++ [⟨.grow, ty, ver, esz, []⟩]) a w ∧ ∀ m0 ρ0 w0, Step m0 ρ0 w0 mem ρ w → Step m0 ρ0 w0 (mem1 ++ [⟨.grow, ty, ver, esz, []⟩]) (ρ.set mem.length ver (none, 0)) w := by
  have hle : ρ.le (ρ.set mem.length ver (none, 0)) := Env.le_set (hr.mem.dom _ _ (Nat.le_refl _))
  have hgt : ∀ {s : Nat} {d : Blk}, (mem1 ++ [⟨.grow, ty, ver, esz, []⟩])[s]? = some d → (s < mem.length ∧ mem1[s]? = some d) ∨ (s = mem.length ∧ d = ⟨.grow, ty, ver, esz, []⟩) := by
    intro s d hd
    rcases Nat.lt_or_ge s mem1.length with h | h
    · rw [List.getElem?_append_left h] at hd; exact .inl ⟨by omega, hd⟩
    · rw [List.getElem?_append_right h] at hd
      have hl := (List.getElem?_eq_some_iff.1 hd).1
      simp at hl
      have : s = mem.length := by omega
      subst this
      simp [hlen] at hd
      exact .inr ⟨rfl, hd.symm⟩
  have hoth : ∀ {s v : Nat}, s < mem.length → ρ.set mem.length ver (none, 0) s v = ρ s v := fun {s v} h => Env.set_other ρ _ (by omega)
  refine ⟨⟨hr.size, ht, ⟨?_, ?_, ?_, ?_⟩⟩, ?_⟩
  · intro s d hd
    rcases hgt hd with ⟨_, h1⟩ | ⟨rfl, rfl⟩
    · exact hb s d h1
    · exact .inl ⟨rfl, Env.set_same _ _ _ _⟩
  · intro s v hs
    simp at hs
    rw [Env.set_other ρ _ (by omega)]
    exact hr.mem.dom s v (by omega)
  · intro s d v hd hv
    rcases hgt hd with ⟨hl, h1⟩ | ⟨rfl, rfl⟩
    · obtain ⟨b, h2, _, h3, _⟩ := hk s d h1
      rw [hoth hl]; exact hr.mem.domv s b v h2 (by omega)
    · simp only at hv
      rw [Env.set_other ρ _ (by omega)]
      exact hr.mem.dom _ _ (Nat.le_refl _)
  · intro s t d e hd he hst hkd hne x y k1 k2 hx hy
    rcases hgt hd with ⟨hl, h1⟩ | ⟨rfl, rfl⟩
    · rcases hgt he with ⟨hl', h1'⟩ | ⟨rfl, rfl⟩
      · obtain ⟨b, h2, h3, h4, h5⟩ := hk s d h1
        obtain ⟨b', h2', h3', h4', h5'⟩ := hk t e h1'
        rw [hoth hl, h4] at hx
        rw [hoth hl', h4'] at hy
        exact hr.mem.sep s t b b' h2 h2' hst (by rw [← h3]; exact hkd) (fun h => by rw [← h5' h]; exact hne (by rw [h3']; exact h)) x y k1 k2 hx hy
      · simp only [Env.set_same] at hy
        injection hy with hy; injection hy with hy _; cases hy
    · simp only [Env.set_same] at hx
      injection hx with hx; injection hx with hx _; cases hx
  · intro m0 ρ0 w0 hs
    refine ⟨hs.os, hs.tape, hs.output, hs.size, ?_, fun r hr v x hx => hle _ _ _ (hs.ext r hr v x hx), ?_, ?_, ?_, ?_⟩
    · have := hs.len; simp; omega
    · intro r b b' hb0 hb'
      have hl0 := (List.getElem?_eq_some_iff.1 hb0).1
      have := hs.len
      rcases hgt hb' with ⟨hl, h1⟩ | ⟨rfl, rfl⟩
      · obtain ⟨b2, h2, h3, _, _⟩ := hk r b' h1
        rw [h3]; exact hs.kind r b b2 hb0 h2
      · omega
    · intro r b' hb' hro
      rcases hgt hb' with ⟨hl, h1⟩ | ⟨rfl, rfl⟩
      · obtain ⟨b2, h2, h3, _, h5⟩ := hk r b' h1
        have e := h5 (by rw [← h3]; exact hro)
        subst e
        exact hs.ro r b' h2 hro
      · cases hro
    · exact hs.frame
    · intro r b' x k hb' hkd hx
      rcases hgt hb' with ⟨hl, h1⟩ | ⟨rfl, rfl⟩
      · obtain ⟨b2, h2, h3, h4, h5⟩ := hk r b' h1
        rw [hoth hl, h4] at hx
        exact hs.fresh r b2 x k h2 (by rw [← h3]; exact hkd) hx
      · simp only [Env.set_same] at hx
        injection hx with hx; injection hx with hx _; cases hx

/-- The same of a temporary. -/
theorem AW.nilTmV {c : Code} {Q : Exit → Tm → AMem → Prop} (ty esz : Nat) (ver : Nat) (d : Nat) (hd : Tm.get tm d = .one .nils)
    (h : AW P nt c ((d, .one (.sl mem.length ver 0 0)) :: tm) (mem ++ [⟨.grow, ty, ver, esz, []⟩]) Q) : AW P nt c tm mem Q := by
  intro ρ a w hr
  have hle : ρ.le (ρ.set mem.length ver (none, 0)) := Env.le_set (hr.mem.dom _ _ (Nat.le_refl _))
  obtain ⟨h1, h2⟩ := hr.nilRowV ver ty esz mem rfl (fun s d hd => ⟨d, hd, rfl, rfl, fun _ => rfl⟩) (fun s d hd => (hr.mem.blk s d hd).mono hle) ((d, .one (.sl mem.length ver 0 0)) :: tm) (fun i => by
    rw [Tm.get_put]
    by_cases hi : i = d
    · subst hi
      rw [if_pos rfl]
      have := hr.tm i
      rw [hd] at this
      exact nil_rowV this
    · rw [if_neg hi]; exact (hr.tm i).mono hle)
  refine wp_mono (h _ a w h1) ?_
  rintro e a' w' ⟨ρ2, tm2, mem2, hr2, hs2, hd, hq⟩
  exact ⟨ρ2, tm2, mem2, hr2, (h2 mem ρ w (Step.refl _ _ _)).trans hs2, hd, hq⟩

end Go.Eng

set_option linter.unusedSimpArgs false
set_option linter.unusedVariables false
set_option maxRecDepth 100000
set_option maxHeartbeats 4000000
namespace Go.Proofs.YtlhppfdokgeijaaDoor
open Go Go.Eng

/-- Held within the span; floors; amounts. -/
def heldI (n : Int) : Int := if 2147483648 < n then 2147483648 else if n < -2147483648 then -2147483648 else n
theorem held_b (n : Int) : -2147483648 ≤ heldI n ∧ heldI n ≤ 2147483648 := by unfold heldI; split <;> (try split) <;> omega
theorem held_id {n : Int} (h : -2147483648 ≤ n ∧ n ≤ 2147483648) : heldI n = n := by unfold heldI; split <;> (try split) <;> omega
theorem wi {x : Int} (h : -9223372036854775808 ≤ x ∧ x ≤ 9223372036854775807) : IntKind.i64.wrap x = x := by rw [IntKind.wrap_i64]; omega
theorem mul_b {x y A B : Int} (hx : -A ≤ x ∧ x ≤ A) (hy : -B ≤ y ∧ y ≤ B) : -(A * B) ≤ x * y ∧ x * y ≤ A * B := by
  have h1 : x.natAbs ≤ A.toNat := by omega
  have h2 : y.natAbs ≤ B.toNat := by omega
  have h3 := Nat.mul_le_mul h1 h2
  rw [← Int.natAbs_mul] at h3
  have h4 : ((A.toNat * B.toNat : Nat) : Int) = A * B := by
    rw [Int.natCast_mul, Int.toNat_of_nonneg (by omega), Int.toNat_of_nonneg (by omega)]
  omega
theorem held_mul (a b : Int) : -4611686018427387904 ≤ heldI a * heldI b ∧ heldI a * heldI b ≤ 4611686018427387904 := mul_b (A := 2147483648) (B := 2147483648) (by have := held_b a; omega) (by have := held_b b; omega)
theorem clamp_c (n : Int) (m : AMem) : Ctr Tryd.prog 15 [.one (.int .i64 n)] m (.one (.int .i64 (heldI n))) m := by
  refine Ctr.enter Tryd.func15 rfl (by decide) (rs := [.tmp 2]) (nt := 10) rfl rfl fun hwf Q hQ => ?_
  refine AW.seq_k fun K hK => ?_
  refine AW.region (by decide) ?_
  simp only [push_cast, Nat.reduceAdd, Nat.reduceMul, Nat.reduceSub, Nat.reduceLeDiff, Nat.reduceLT, Nat.reduceEqDiff, Nat.reduceBEq, Nat.reduceBNe, Nat.reduceMod, Nat.reduceDiv, Int.reduceLE, Int.reduceLT, Int.reduceToNat, Int.reduceAdd, Int.reduceSub, Int.reduceMul, Int.reduceNeg, Int.reduceEq, Int.reduceBEq, Int.reduceBNe, ↓reduceIte, reduceCtorEq, String.reduceBNe, String.reduceEq, reduceDIte, Nat.reducePow]
  refine Thn_n ?_
  refine hK _ _ ?_
  clear hK K
  refine AW.seq_k fun K hK => ?_
  refine AW.block ?_
  refine AW.seq_k fun K hK => ?_
  refine AW.region (by decide) ?_
  simp only [push_cast, Nat.reduceAdd, Nat.reduceMul, Nat.reduceSub, Nat.reduceLeDiff, Nat.reduceLT, Nat.reduceEqDiff, Nat.reduceBEq, Nat.reduceBNe, Nat.reduceMod, Nat.reduceDiv, Int.reduceLE, Int.reduceLT, Int.reduceToNat, Int.reduceAdd, Int.reduceSub, Int.reduceMul, Int.reduceNeg, Int.reduceEq, Int.reduceBEq, Int.reduceBNe, ↓reduceIte, reduceCtorEq, String.reduceBNe, String.reduceEq, reduceDIte, Nat.reducePow]
  refine Thn_n ?_
  refine hK _ _ ?_
  clear hK K
  refine AW.cond rfl (fun h3 => ?_) (fun h3 => ?_)
  · have hr : heldI n = 2147483648 := by have := of_decide_eq_true h3; unfold heldI; rw [if_pos this]
    refine AW.seq_k fun K hK => ?_
    refine AW.region (by decide) ?_
    simp only [push_cast, Nat.reduceAdd, Nat.reduceMul, Nat.reduceSub, Nat.reduceLeDiff, Nat.reduceLT, Nat.reduceEqDiff, Nat.reduceBEq, Nat.reduceBNe, Nat.reduceMod, Nat.reduceDiv, Int.reduceLE, Int.reduceLT, Int.reduceToNat, Int.reduceAdd, Int.reduceSub, Int.reduceMul, Int.reduceNeg, Int.reduceEq, Int.reduceBEq, Int.reduceBNe, ↓reduceIte, reduceCtorEq, String.reduceBNe, String.reduceEq, reduceDIte, Nat.reducePow]
    refine Thn_n ?_
    refine hK _ _ ?_
    clear hK K
    refine AW.ret ?_
    refine InB_r ?_
    refine Thn_r ?_
    refine hQ _ _ _ ?_
    first | refine RetP.drop0 (Or.inr rfl) ?_ ?_ hwf | refine RetP.drop (Or.inr rfl) ?_ ?_ hwf
    · simp only [resA, resOne, resTv, AV.tv, push_cast, Nat.reduceAdd, Nat.reduceMul, Nat.reduceSub, Nat.reduceLeDiff, Nat.reduceLT, Nat.reduceEqDiff, Nat.reduceBEq, Nat.reduceBNe, Nat.reduceMod, Nat.reduceDiv, Int.reduceLE, Int.reduceLT, Int.reduceToNat, Int.reduceAdd, Int.reduceSub, Int.reduceMul, Int.reduceNeg, Int.reduceEq, Int.reduceBEq, Int.reduceBNe, ↓reduceIte, reduceCtorEq, String.reduceBNe, String.reduceEq, reduceDIte, Nat.reducePow, hr]
    · rfl
  · refine AW.seq_k fun K hK => ?_
    refine AW.region (by decide) ?_
    simp only [push_cast, Nat.reduceAdd, Nat.reduceMul, Nat.reduceSub, Nat.reduceLeDiff, Nat.reduceLT, Nat.reduceEqDiff, Nat.reduceBEq, Nat.reduceBNe, Nat.reduceMod, Nat.reduceDiv, Int.reduceLE, Int.reduceLT, Int.reduceToNat, Int.reduceAdd, Int.reduceSub, Int.reduceMul, Int.reduceNeg, Int.reduceEq, Int.reduceBEq, Int.reduceBNe, ↓reduceIte, reduceCtorEq, String.reduceBNe, String.reduceEq, reduceDIte, Nat.reducePow]
    refine Thn_n ?_
    refine hK _ _ ?_
    clear hK K
    refine AW.cond rfl (fun h6 => ?_) (fun h6 => ?_)
    · have hr : heldI n = -2147483648 := by have h0 := of_decide_eq_false h3; have := of_decide_eq_true h6; unfold heldI; rw [if_neg h0, if_pos this]
      refine AW.seq_k fun K hK => ?_
      refine AW.region (by decide) ?_
      simp only [push_cast, Nat.reduceAdd, Nat.reduceMul, Nat.reduceSub, Nat.reduceLeDiff, Nat.reduceLT, Nat.reduceEqDiff, Nat.reduceBEq, Nat.reduceBNe, Nat.reduceMod, Nat.reduceDiv, Int.reduceLE, Int.reduceLT, Int.reduceToNat, Int.reduceAdd, Int.reduceSub, Int.reduceMul, Int.reduceNeg, Int.reduceEq, Int.reduceBEq, Int.reduceBNe, ↓reduceIte, reduceCtorEq, String.reduceBNe, String.reduceEq, reduceDIte, Nat.reducePow]
      refine Thn_n ?_
      refine hK _ _ ?_
      clear hK K
      refine AW.ret ?_
      refine InB_r ?_
      refine Thn_r ?_
      refine hQ _ _ _ ?_
      first | refine RetP.drop0 (Or.inr rfl) ?_ ?_ hwf | refine RetP.drop (Or.inr rfl) ?_ ?_ hwf
      · simp only [resA, resOne, resTv, AV.tv, push_cast, Nat.reduceAdd, Nat.reduceMul, Nat.reduceSub, Nat.reduceLeDiff, Nat.reduceLT, Nat.reduceEqDiff, Nat.reduceBEq, Nat.reduceBNe, Nat.reduceMod, Nat.reduceDiv, Int.reduceLE, Int.reduceLT, Int.reduceToNat, Int.reduceAdd, Int.reduceSub, Int.reduceMul, Int.reduceNeg, Int.reduceEq, Int.reduceBEq, Int.reduceBNe, ↓reduceIte, reduceCtorEq, String.reduceBNe, String.reduceEq, reduceDIte, Nat.reducePow, hr]
      · rfl
    · have hr : heldI n = n := by have h0 := of_decide_eq_false h3; have := of_decide_eq_false h6; unfold heldI; rw [if_neg h0, if_neg this]
      refine AW.skip ?_
      refine InB_n ?_
      refine Thn_n ?_
      refine hK _ _ ?_
      clear hK K
      refine AW.seq_k fun K hK => ?_
      refine AW.region (by decide) ?_
      simp only [push_cast, Nat.reduceAdd, Nat.reduceMul, Nat.reduceSub, Nat.reduceLeDiff, Nat.reduceLT, Nat.reduceEqDiff, Nat.reduceBEq, Nat.reduceBNe, Nat.reduceMod, Nat.reduceDiv, Int.reduceLE, Int.reduceLT, Int.reduceToNat, Int.reduceAdd, Int.reduceSub, Int.reduceMul, Int.reduceNeg, Int.reduceEq, Int.reduceBEq, Int.reduceBNe, ↓reduceIte, reduceCtorEq, String.reduceBNe, String.reduceEq, reduceDIte, Nat.reducePow]
      refine Thn_n ?_
      refine hK _ _ ?_
      clear hK K
      refine AW.ret ?_
      refine hQ _ _ _ ?_
      first | refine RetP.drop0 (Or.inr rfl) ?_ ?_ hwf | refine RetP.drop (Or.inr rfl) ?_ ?_ hwf
      · simp only [resA, resOne, resTv, AV.tv, push_cast, Nat.reduceAdd, Nat.reduceMul, Nat.reduceSub, Nat.reduceLeDiff, Nat.reduceLT, Nat.reduceEqDiff, Nat.reduceBEq, Nat.reduceBNe, Nat.reduceMod, Nat.reduceDiv, Int.reduceLE, Int.reduceLT, Int.reduceToNat, Int.reduceAdd, Int.reduceSub, Int.reduceMul, Int.reduceNeg, Int.reduceEq, Int.reduceBEq, Int.reduceBNe, ↓reduceIte, reduceCtorEq, String.reduceBNe, String.reduceEq, reduceDIte, Nat.reducePow, hr]
      · rfl
theorem in_c (n : Int) (m : AMem) : Ctr Tryd.prog 39 [.one (.int .i64 n)] m (.one (.int .i64 (heldI n))) m := by
  refine Ctr.enter Tryd.func39 rfl (by decide) (rs := [.tmp 2]) (nt := 5) rfl rfl fun hwf Q hQ => ?_
  have hw : IntKind.i64.wrap (heldI n) = heldI n := wi (by have := held_b n; omega)
  refine AW.seq_k fun K hK => ?_
  refine AW.region (by decide) ?_
  simp only [push_cast, Nat.reduceAdd, Nat.reduceMul, Nat.reduceSub, Nat.reduceLeDiff, Nat.reduceLT, Nat.reduceEqDiff, Nat.reduceBEq, Nat.reduceBNe, Nat.reduceMod, Nat.reduceDiv, Int.reduceLE, Int.reduceLT, Int.reduceToNat, Int.reduceAdd, Int.reduceSub, Int.reduceMul, Int.reduceNeg, Int.reduceEq, Int.reduceBEq, Int.reduceBNe, ↓reduceIte, reduceCtorEq, String.reduceBNe, String.reduceEq, reduceDIte, Nat.reducePow, hw]
  refine Thn_n ?_
  refine hK _ _ ?_
  clear hK K
  refine AW.seq_k fun K hK => ?_
  refine AW.region (by decide) ?_
  simp only [push_cast, Nat.reduceAdd, Nat.reduceMul, Nat.reduceSub, Nat.reduceLeDiff, Nat.reduceLT, Nat.reduceEqDiff, Nat.reduceBEq, Nat.reduceBNe, Nat.reduceMod, Nat.reduceDiv, Int.reduceLE, Int.reduceLT, Int.reduceToNat, Int.reduceAdd, Int.reduceSub, Int.reduceMul, Int.reduceNeg, Int.reduceEq, Int.reduceBEq, Int.reduceBNe, ↓reduceIte, reduceCtorEq, String.reduceBNe, String.reduceEq, reduceDIte, Nat.reducePow, hw]
  refine CThen.by (clamp_c n _) ?_
  simp only [push_cast, Nat.reduceAdd, Nat.reduceMul, Nat.reduceSub, Nat.reduceLeDiff, Nat.reduceLT, Nat.reduceEqDiff, Nat.reduceBEq, Nat.reduceBNe, Nat.reduceMod, Nat.reduceDiv, Int.reduceLE, Int.reduceLT, Int.reduceToNat, Int.reduceAdd, Int.reduceSub, Int.reduceMul, Int.reduceNeg, Int.reduceEq, Int.reduceBEq, Int.reduceBNe, ↓reduceIte, reduceCtorEq, String.reduceBNe, String.reduceEq, reduceDIte, Nat.reducePow, hw]
  refine Thn_n ?_
  refine hK _ _ ?_
  clear hK K
  refine AW.ret ?_
  refine hQ _ _ _ ?_
  first | refine RetP.drop0 (Or.inr rfl) ?_ ?_ hwf | refine RetP.drop (Or.inr rfl) ?_ ?_ hwf
  · simp only [resA, resOne, resTv, AV.tv, push_cast, Nat.reduceAdd, Nat.reduceMul, Nat.reduceSub, Nat.reduceLeDiff, Nat.reduceLT, Nat.reduceEqDiff, Nat.reduceBEq, Nat.reduceBNe, Nat.reduceMod, Nat.reduceDiv, Int.reduceLE, Int.reduceLT, Int.reduceToNat, Int.reduceAdd, Int.reduceSub, Int.reduceMul, Int.reduceNeg, Int.reduceEq, Int.reduceBEq, Int.reduceBNe, ↓reduceIte, reduceCtorEq, String.reduceBNe, String.reduceEq, reduceDIte, Nat.reducePow, hw]
  · rfl
theorem held_c (n : Int) (m : AMem) : Ctr Tryd.prog 19 [.one (.int .i64 n)] m (.one (.int .i64 (heldI n))) m := by
  refine Ctr.enter Tryd.func19 rfl (by decide) (rs := [.tmp 2]) (nt := 8) rfl rfl fun hwf Q hQ => ?_
  refine AW.seq_k fun K hK => ?_
  refine AW.region (by decide) ?_
  simp only [push_cast, Nat.reduceAdd, Nat.reduceMul, Nat.reduceSub, Nat.reduceLeDiff, Nat.reduceLT, Nat.reduceEqDiff, Nat.reduceBEq, Nat.reduceBNe, Nat.reduceMod, Nat.reduceDiv, Int.reduceLE, Int.reduceLT, Int.reduceToNat, Int.reduceAdd, Int.reduceSub, Int.reduceMul, Int.reduceNeg, Int.reduceEq, Int.reduceBEq, Int.reduceBNe, ↓reduceIte, reduceCtorEq, String.reduceBNe, String.reduceEq, reduceDIte, Nat.reducePow]
  refine Thn_n ?_
  refine hK _ _ ?_
  clear hK K
  refine AW.seq_k fun K hK => ?_
  refine AW.seq_k fun K hK => ?_
  refine AW.region (by decide) ?_
  simp only [push_cast, Nat.reduceAdd, Nat.reduceMul, Nat.reduceSub, Nat.reduceLeDiff, Nat.reduceLT, Nat.reduceEqDiff, Nat.reduceBEq, Nat.reduceBNe, Nat.reduceMod, Nat.reduceDiv, Int.reduceLE, Int.reduceLT, Int.reduceToNat, Int.reduceAdd, Int.reduceSub, Int.reduceMul, Int.reduceNeg, Int.reduceEq, Int.reduceBEq, Int.reduceBNe, ↓reduceIte, reduceCtorEq, String.reduceBNe, String.reduceEq, reduceDIte, Nat.reducePow]
  refine Thn_n ?_
  refine hK _ _ ?_
  clear hK K
  refine AW.cond rfl (fun h4 => ?_) (fun h4 => ?_)
  · have hr : heldI n = 2147483648 := by have := of_decide_eq_true h4; unfold heldI; rw [if_pos this]
    refine AW.seq_k fun K hK => ?_
    refine AW.region (by decide) ?_
    simp only [push_cast, Nat.reduceAdd, Nat.reduceMul, Nat.reduceSub, Nat.reduceLeDiff, Nat.reduceLT, Nat.reduceEqDiff, Nat.reduceBEq, Nat.reduceBNe, Nat.reduceMod, Nat.reduceDiv, Int.reduceLE, Int.reduceLT, Int.reduceToNat, Int.reduceAdd, Int.reduceSub, Int.reduceMul, Int.reduceNeg, Int.reduceEq, Int.reduceBEq, Int.reduceBNe, ↓reduceIte, reduceCtorEq, String.reduceBNe, String.reduceEq, reduceDIte, Nat.reducePow]
    refine Thn_n ?_
    refine hK _ _ ?_
    clear hK K
    refine AW.ret ?_
    refine Thn_r ?_
    refine hQ _ _ _ ?_
    first | refine RetP.drop0 (Or.inr rfl) ?_ ?_ hwf | refine RetP.drop (Or.inr rfl) ?_ ?_ hwf
    · simp only [resA, resOne, resTv, AV.tv, push_cast, Nat.reduceAdd, Nat.reduceMul, Nat.reduceSub, Nat.reduceLeDiff, Nat.reduceLT, Nat.reduceEqDiff, Nat.reduceBEq, Nat.reduceBNe, Nat.reduceMod, Nat.reduceDiv, Int.reduceLE, Int.reduceLT, Int.reduceToNat, Int.reduceAdd, Int.reduceSub, Int.reduceMul, Int.reduceNeg, Int.reduceEq, Int.reduceBEq, Int.reduceBNe, ↓reduceIte, reduceCtorEq, String.reduceBNe, String.reduceEq, reduceDIte, Nat.reducePow, hr]
    · rfl
  · refine AW.skip ?_
    refine Thn_n ?_
    refine hK _ _ ?_
    clear hK K
    refine AW.seq_k fun K hK => ?_
    refine AW.seq_k fun K hK => ?_
    refine AW.region (by decide) ?_
    simp only [push_cast, Nat.reduceAdd, Nat.reduceMul, Nat.reduceSub, Nat.reduceLeDiff, Nat.reduceLT, Nat.reduceEqDiff, Nat.reduceBEq, Nat.reduceBNe, Nat.reduceMod, Nat.reduceDiv, Int.reduceLE, Int.reduceLT, Int.reduceToNat, Int.reduceAdd, Int.reduceSub, Int.reduceMul, Int.reduceNeg, Int.reduceEq, Int.reduceBEq, Int.reduceBNe, ↓reduceIte, reduceCtorEq, String.reduceBNe, String.reduceEq, reduceDIte, Nat.reducePow]
    refine Thn_n ?_
    refine hK _ _ ?_
    clear hK K
    refine AW.cond rfl (fun h6 => ?_) (fun h6 => ?_)
    · have hr : heldI n = -2147483648 := by have h0 := of_decide_eq_false h4; have := of_decide_eq_true h6; unfold heldI; rw [if_neg h0, if_pos this]
      refine AW.seq_k fun K hK => ?_
      refine AW.region (by decide) ?_
      simp only [push_cast, Nat.reduceAdd, Nat.reduceMul, Nat.reduceSub, Nat.reduceLeDiff, Nat.reduceLT, Nat.reduceEqDiff, Nat.reduceBEq, Nat.reduceBNe, Nat.reduceMod, Nat.reduceDiv, Int.reduceLE, Int.reduceLT, Int.reduceToNat, Int.reduceAdd, Int.reduceSub, Int.reduceMul, Int.reduceNeg, Int.reduceEq, Int.reduceBEq, Int.reduceBNe, ↓reduceIte, reduceCtorEq, String.reduceBNe, String.reduceEq, reduceDIte, Nat.reducePow]
      refine Thn_n ?_
      refine hK _ _ ?_
      clear hK K
      refine AW.ret ?_
      refine Thn_r ?_
      refine hQ _ _ _ ?_
      first | refine RetP.drop0 (Or.inr rfl) ?_ ?_ hwf | refine RetP.drop (Or.inr rfl) ?_ ?_ hwf
      · simp only [resA, resOne, resTv, AV.tv, push_cast, Nat.reduceAdd, Nat.reduceMul, Nat.reduceSub, Nat.reduceLeDiff, Nat.reduceLT, Nat.reduceEqDiff, Nat.reduceBEq, Nat.reduceBNe, Nat.reduceMod, Nat.reduceDiv, Int.reduceLE, Int.reduceLT, Int.reduceToNat, Int.reduceAdd, Int.reduceSub, Int.reduceMul, Int.reduceNeg, Int.reduceEq, Int.reduceBEq, Int.reduceBNe, ↓reduceIte, reduceCtorEq, String.reduceBNe, String.reduceEq, reduceDIte, Nat.reducePow, hr]
      · rfl
    · have hr : heldI n = n := by have h0 := of_decide_eq_false h4; have := of_decide_eq_false h6; unfold heldI; rw [if_neg h0, if_neg this]
      refine AW.skip ?_
      refine Thn_n ?_
      refine hK _ _ ?_
      clear hK K
      refine AW.seq_k fun K hK => ?_
      refine AW.region (by decide) ?_
      simp only [push_cast, Nat.reduceAdd, Nat.reduceMul, Nat.reduceSub, Nat.reduceLeDiff, Nat.reduceLT, Nat.reduceEqDiff, Nat.reduceBEq, Nat.reduceBNe, Nat.reduceMod, Nat.reduceDiv, Int.reduceLE, Int.reduceLT, Int.reduceToNat, Int.reduceAdd, Int.reduceSub, Int.reduceMul, Int.reduceNeg, Int.reduceEq, Int.reduceBEq, Int.reduceBNe, ↓reduceIte, reduceCtorEq, String.reduceBNe, String.reduceEq, reduceDIte, Nat.reducePow]
      refine Thn_n ?_
      refine hK _ _ ?_
      clear hK K
      refine AW.ret ?_
      refine hQ _ _ _ ?_
      first | refine RetP.drop0 (Or.inr rfl) ?_ ?_ hwf | refine RetP.drop (Or.inr rfl) ?_ ?_ hwf
      · simp only [resA, resOne, resTv, AV.tv, push_cast, Nat.reduceAdd, Nat.reduceMul, Nat.reduceSub, Nat.reduceLeDiff, Nat.reduceLT, Nat.reduceEqDiff, Nat.reduceBEq, Nat.reduceBNe, Nat.reduceMod, Nat.reduceDiv, Int.reduceLE, Int.reduceLT, Int.reduceToNat, Int.reduceAdd, Int.reduceSub, Int.reduceMul, Int.reduceNeg, Int.reduceEq, Int.reduceBEq, Int.reduceBNe, ↓reduceIte, reduceCtorEq, String.reduceBNe, String.reduceEq, reduceDIte, Nat.reducePow, hr]
      · rfl
theorem tmod_pos {n d : Int} (hd : 0 < d) : (n.tmod d = n % d ∧ (0 ≤ n ∨ n % d = 0)) ∨ (n < 0 ∧ ¬ n % d = 0 ∧ n.tmod d = n % d - d) := by
  rcases Classical.em (n < 0) with h | h
  · have e : n.tmod d = -((-n) % d) := by rw [← Int.tmod_eq_emod_of_nonneg (by omega), Int.neg_tmod, Int.neg_neg]
    rw [e, Int.neg_emod]
    split
    · rename_i hn
      have := Int.emod_eq_zero_of_dvd hn
      exact .inl ⟨by omega, .inr this⟩
    · rename_i hn
      have h0 : ¬ n % d = 0 := fun h0 => hn (Int.dvd_of_emod_eq_zero h0)
      have : (d.natAbs : Int) = d := by omega
      exact .inr ⟨h, h0, by omega⟩
  · exact .inl ⟨Int.tmod_eq_emod_of_nonneg (by omega), .inl (by omega)⟩
theorem down_div {n d : Int} (hd : 0 < d) {r : Int} (hr : r = n % d) : (n - r).tdiv d = n / d := by
  subst hr
  have h1 := Int.emod_add_mul_ediv n d
  have e : n - n % d = d * (n / d) := by omega
  rw [e, Int.mul_tdiv_cancel_left _ (by omega)]
theorem ediv_b {n d : Int} (hd : 0 < d) {A : Int} (h : -A ≤ n ∧ n ≤ A) : -A ≤ n / d ∧ n / d ≤ A := by
  have h1 := Int.emod_add_mul_ediv n d
  have h2 := Int.emod_nonneg n (b := d) (by omega)
  have h3 := Int.emod_lt_of_pos n hd
  constructor
  · exact Int.le_ediv_of_mul_le hd (by have := Int.mul_le_mul_of_nonneg_left (show (1 : Int) ≤ d by omega) (show 0 ≤ A by omega); have e : -A * d = -(A * d) := Int.neg_mul _ _; omega)
  · exact Int.ediv_le_of_le_mul hd (by have := Int.mul_le_mul_of_nonneg_left (show (1 : Int) ≤ d by omega) (show 0 ≤ A by omega); omega)
theorem down_c (n d : Int) (m : AMem) (hd : 0 < d) (hb : -4611686018427387904 ≤ n ∧ n ≤ 4611686018427387904) (hb2 : d ≤ 4611686018427387904) : Ctr Tryd.prog 28 [.one (.int .i64 n), .one (.int .i64 d)] m (.one (.int .i64 (n / d))) m := by
  refine Ctr.enter Tryd.func28 rfl (by decide) (rs := [.tmp 4]) (nt := 19) rfl rfl fun hwf Q hQ => ?_
  have hm := tmod_pos (n := n) hd
  have h2 := Int.emod_nonneg n (b := d) (by omega)
  have h3 := Int.emod_lt_of_pos n hd
  have hd0 : ¬ d = 0 := by omega
  have hdiv := @down_div n d hd
  have hqb := ediv_b (n := n) hd hb
  have hwq : IntKind.i64.wrap (n / d) = n / d := wi (by omega)
  generalize htm : n.tmod d = r at *
  have hq1 : (n - n % d).tdiv d = n / d := hdiv rfl
  have hw0 : IntKind.i64.wrap (n - n % d) = n - n % d := wi (by omega)
  iterate 2
    refine AW.seq_k fun K hK => ?_
    refine AW.region (by decide) ?_
    simp only [push_cast, Nat.reduceAdd, Nat.reduceMul, Nat.reduceSub, Nat.reduceLeDiff, Nat.reduceLT, Nat.reduceEqDiff, Nat.reduceBEq, Nat.reduceBNe, Nat.reduceMod, Nat.reduceDiv, Int.reduceLE, Int.reduceLT, Int.reduceToNat, Int.reduceAdd, Int.reduceSub, Int.reduceMul, Int.reduceNeg, Int.reduceEq, Int.reduceBEq, Int.reduceBNe, ↓reduceIte, reduceCtorEq, String.reduceBNe, String.reduceEq, reduceDIte, Nat.reducePow, htm, hd0, hwq]
    refine Thn_n ?_
    refine hK _ _ ?_
    clear hK K
  refine AW.seq_k fun K hK => ?_
  refine AW.seq_k fun K hK => ?_
  refine AW.region (by decide) ?_
  simp only [push_cast, Nat.reduceAdd, Nat.reduceMul, Nat.reduceSub, Nat.reduceLeDiff, Nat.reduceLT, Nat.reduceEqDiff, Nat.reduceBEq, Nat.reduceBNe, Nat.reduceMod, Nat.reduceDiv, Int.reduceLE, Int.reduceLT, Int.reduceToNat, Int.reduceAdd, Int.reduceSub, Int.reduceMul, Int.reduceNeg, Int.reduceEq, Int.reduceBEq, Int.reduceBNe, ↓reduceIte, reduceCtorEq, String.reduceBNe, String.reduceEq, reduceDIte, Nat.reducePow, htm, hd0, hwq]
  refine Thn_n ?_
  refine hK _ _ ?_
  clear hK K
  refine AW.cond rfl (fun h10 => ?_) (fun h10 => ?_)
  · have hneg := of_decide_eq_true h10
    have er : r = n % d - d := by omega
    have hw1 : IntKind.i64.wrap (r + d) = n % d := by rw [wi (by omega)]; omega
    refine AW.region (by decide) ?_
    simp only [push_cast, Nat.reduceAdd, Nat.reduceMul, Nat.reduceSub, Nat.reduceLeDiff, Nat.reduceLT, Nat.reduceEqDiff, Nat.reduceBEq, Nat.reduceBNe, Nat.reduceMod, Nat.reduceDiv, Int.reduceLE, Int.reduceLT, Int.reduceToNat, Int.reduceAdd, Int.reduceSub, Int.reduceMul, Int.reduceNeg, Int.reduceEq, Int.reduceBEq, Int.reduceBNe, ↓reduceIte, reduceCtorEq, String.reduceBNe, String.reduceEq, reduceDIte, Nat.reducePow, htm, hd0, hwq, hw1, hw0, hq1]
    refine Thn_n ?_
    refine hK _ _ ?_
    clear hK K
    refine AW.seq_k fun K hK => ?_
    refine AW.region (by decide) ?_
    simp only [push_cast, Nat.reduceAdd, Nat.reduceMul, Nat.reduceSub, Nat.reduceLeDiff, Nat.reduceLT, Nat.reduceEqDiff, Nat.reduceBEq, Nat.reduceBNe, Nat.reduceMod, Nat.reduceDiv, Int.reduceLE, Int.reduceLT, Int.reduceToNat, Int.reduceAdd, Int.reduceSub, Int.reduceMul, Int.reduceNeg, Int.reduceEq, Int.reduceBEq, Int.reduceBNe, ↓reduceIte, reduceCtorEq, String.reduceBNe, String.reduceEq, reduceDIte, Nat.reducePow, htm, hd0, hwq, hw1, hw0, hq1]
    refine Thn_n ?_
    refine hK _ _ ?_
    clear hK K
    refine AW.ret ?_
    refine hQ _ _ _ ?_
    first | refine RetP.drop0 (Or.inr rfl) ?_ ?_ hwf | refine RetP.drop (Or.inr rfl) ?_ ?_ hwf
    · simp only [resA, resOne, resTv, AV.tv, push_cast, Nat.reduceAdd, Nat.reduceMul, Nat.reduceSub, Nat.reduceLeDiff, Nat.reduceLT, Nat.reduceEqDiff, Nat.reduceBEq, Nat.reduceBNe, Nat.reduceMod, Nat.reduceDiv, Int.reduceLE, Int.reduceLT, Int.reduceToNat, Int.reduceAdd, Int.reduceSub, Int.reduceMul, Int.reduceNeg, Int.reduceEq, Int.reduceBEq, Int.reduceBNe, ↓reduceIte, reduceCtorEq, String.reduceBNe, String.reduceEq, reduceDIte, Nat.reducePow, htm, hd0, hwq, hw1, hw0, hq1]
    · rfl
  · have hneg := of_decide_eq_false h10
    have er : r = n % d := by omega
    subst er
    refine AW.skip ?_
    refine Thn_n ?_
    refine hK _ _ ?_
    clear hK K
    refine AW.seq_k fun K hK => ?_
    refine AW.region (by decide) ?_
    simp only [push_cast, Nat.reduceAdd, Nat.reduceMul, Nat.reduceSub, Nat.reduceLeDiff, Nat.reduceLT, Nat.reduceEqDiff, Nat.reduceBEq, Nat.reduceBNe, Nat.reduceMod, Nat.reduceDiv, Int.reduceLE, Int.reduceLT, Int.reduceToNat, Int.reduceAdd, Int.reduceSub, Int.reduceMul, Int.reduceNeg, Int.reduceEq, Int.reduceBEq, Int.reduceBNe, ↓reduceIte, reduceCtorEq, String.reduceBNe, String.reduceEq, reduceDIte, Nat.reducePow, htm, hd0, hwq, hw0, hq1]
    refine Thn_n ?_
    refine hK _ _ ?_
    clear hK K
    refine AW.ret ?_
    refine hQ _ _ _ ?_
    first | refine RetP.drop0 (Or.inr rfl) ?_ ?_ hwf | refine RetP.drop (Or.inr rfl) ?_ ?_ hwf
    · simp only [resA, resOne, resTv, AV.tv, push_cast, Nat.reduceAdd, Nat.reduceMul, Nat.reduceSub, Nat.reduceLeDiff, Nat.reduceLT, Nat.reduceEqDiff, Nat.reduceBEq, Nat.reduceBNe, Nat.reduceMod, Nat.reduceDiv, Int.reduceLE, Int.reduceLT, Int.reduceToNat, Int.reduceAdd, Int.reduceSub, Int.reduceMul, Int.reduceNeg, Int.reduceEq, Int.reduceBEq, Int.reduceBNe, ↓reduceIte, reduceCtorEq, String.reduceBNe, String.reduceEq, reduceDIte, Nat.reducePow, htm, hd0, hwq, hw0, hq1]
    · rfl
end Go.Proofs.YtlhppfdokgeijaaDoor

set_option linter.unusedSimpArgs false
set_option linter.unusedVariables false
set_option maxRecDepth 100000
set_option maxHeartbeats 4000000
namespace Go.Proofs.YtlhppfdokgeijaaDoor
open Go Go.Eng

def floorI (n d : Int) : Int := if 0 < d then n / d else (-n) / (-d)
theorem floor_pos {n d : Int} (hd : 0 < d) : n.tdiv d = (if n.tmod d ≠ 0 ∧ n < 0 then n / d + 1 else n / d) := by
  have h0 := Int.tmod_add_mul_tdiv n d
  have h1 := Int.emod_add_mul_ediv n d
  have hm := tmod_pos (n := n) hd
  have h2 := Int.emod_nonneg n (b := d) (by omega)
  have h3 := Int.emod_lt_of_pos n hd
  have key : ∀ a b : Int, d * a = d * b → a = b := fun a b h => Int.eq_of_mul_eq_mul_left (by omega) h
  split
  · rename_i hc
    refine key _ _ ?_
    rw [Int.mul_add, Int.mul_one]
    omega
  · rename_i hc
    refine key _ _ ?_
    omega
theorem floor_eq {n d : Int} (hd : d ≠ 0) : floorI n d = (if n.tmod d ≠ 0 ∧ (decide (n < 0) != decide (d < 0)) = true then n.tdiv d - 1 else n.tdiv d) := by
  unfold floorI
  rcases Classical.em (0 < d) with h | h
  · rw [if_pos h]
    have h1 := floor_pos (n := n) h
    have h2 : decide (d < 0) = false := decide_eq_false (by omega)
    rw [h2]
    rcases Classical.em (n.tmod d = 0) with h5 | h5
    · rw [if_neg (fun hc => hc.1 h5), h1, if_neg (fun hc => hc.1 h5)]
    · rcases Classical.em (n < 0) with h4 | h4
      · rw [if_pos ⟨h5, by rw [decide_eq_true h4]; rfl⟩, h1, if_pos ⟨h5, h4⟩]; omega
      · rw [if_neg (by rw [decide_eq_false h4]; exact fun hc => by cases hc.2), h1, if_neg (fun hc => h4 hc.2)]
  · rw [if_neg h]
    have h0 : 0 < -d := by omega
    have h1 := floor_pos (n := -n) h0
    have h2 : decide (d < 0) = true := decide_eq_true (by omega)
    have e1 : (-n).tdiv (-d) = n.tdiv d := by rw [Int.neg_tdiv, Int.tdiv_neg, Int.neg_neg]
    have e2 : (-n).tmod (-d) = -(n.tmod d) := by rw [Int.neg_tmod, Int.tmod_neg]
    rw [e1, e2] at h1
    rw [h2]
    rcases Classical.em (n.tmod d = 0) with h5 | h5
    · rw [if_neg (fun hc => hc.1 h5), h1, if_neg (fun hc => hc.1 (by omega))]
    · have h6 : ¬ n = 0 := fun e => by subst e; simp at h5
      rcases Classical.em (n < 0) with h4 | h4
      · rw [if_neg (by rw [decide_eq_true h4]; exact fun hc => by cases hc.2), h1, if_neg (by omega)]
      · rw [if_pos ⟨h5, by rw [decide_eq_false h4]; rfl⟩, h1, if_pos ⟨by omega, by omega⟩]; omega
theorem floor_b {n d : Int} (hd : d ≠ 0) {A : Int} (h : -A ≤ n ∧ n ≤ A) : -A ≤ floorI n d ∧ floorI n d ≤ A := by
  unfold floorI; split
  · rename_i hp; exact ediv_b hp h
  · exact ediv_b (by omega) (by omega)
theorem and_mask (x : Int) (i : Nat) (hi : i ≤ 62) : bits .and .i64 x ((2 : Int) ^ i - 1) = x % (2 : Int) ^ i := by
  have hp : (2 : Nat) ^ i ≤ 2 ^ 62 := Nat.pow_le_pow_right (by decide) hi
  have hp0 : 0 < (2 : Nat) ^ i := Nat.pos_of_ne_zero (by simp)
  have hc : ((2 : Int) ^ i) = ((2 ^ i : Nat) : Int) := by simp
  have e1 : (BitVec.ofInt 64 ((2 : Int) ^ i - 1)).toNat = 2 ^ i - 1 := by
    rw [BitVec.toNat_ofInt, hc]
    have : (((2 ^ i : Nat) : Int) - 1) % ((2 ^ 64 : Nat) : Int) = ((2 ^ i : Nat) : Int) - 1 := Int.emod_eq_of_lt (by omega) (by omega)
    rw [this]; omega
  have e0 : bits .and .i64 x ((2 : Int) ^ i - 1) = IntKind.i64.wrap (((BitVec.ofInt 64 x &&& BitVec.ofInt 64 ((2 : Int) ^ i - 1)).toNat : Nat) : Int) := rfl
  rw [e0, BitVec.toNat_and, e1, Nat.and_two_pow_sub_one_eq_mod, BitVec.toNat_ofInt]
  have h1 : (((x % ((2 ^ 64 : Nat) : Int)).toNat % 2 ^ i : Nat) : Int) = x % (2 : Int) ^ i := by
    rw [Int.natCast_emod, Int.toNat_of_nonneg (Int.emod_nonneg _ (by simp)), hc]
    refine Int.emod_emod_of_dvd _ ?_
    exact_mod_cast Nat.pow_dvd_pow 2 (show i ≤ 64 by omega)
  rw [h1]
  have h2 := Int.emod_nonneg x (b := (2 : Int) ^ i) (by omega)
  have h3 := Int.emod_lt_of_pos x (b := (2 : Int) ^ i) (by omega)
  exact wi (by omega)
theorem and_part (x : Int) : bits .and .i64 x 65535 = x % 65536 := and_mask x 16 (by decide)
theorem and_62 (x : Int) : bits .and .i64 x 4611686018427387903 = x % 4611686018427387904 := and_mask x 62 (by decide)
theorem floor_z (n d : Int) (m : AMem) (hd : d ≠ 0) (hb : -4611686018427387904 ≤ n ∧ n ≤ 4611686018427387904) (h0 : (n.tmod d != 0) = false) : Ctr Tryd.prog 40 [.one (.int .i64 n), .one (.int .i64 d)] m (.one (.int .i64 (floorI n d))) m := by
  refine Ctr.enter Tryd.func40 rfl (by decide) (rs := [.tmp 4]) (nt := 23) rfl rfl fun hwf Q hQ => ?_
  have he := floor_eq (n := n) hd
  have hfb := floor_b (n := n) hd hb
  have hw1 : IntKind.i64.wrap (floorI n d) = floorI n d := wi (by omega)
  have hw0 : IntKind.i64.wrap (n.tdiv d) = n.tdiv d := by
    refine wi ?_
    rw [he] at hfb
    split at hfb <;> omega
  have hr : floorI n d = n.tdiv d := by
    rw [if_neg (fun hc => hc.1 (by simpa using h0))] at he; exact he
  iterate 2
    refine AW.seq_k fun K hK => ?_
    refine AW.region (by decide) ?_
    simp only [push_cast, Nat.reduceAdd, Nat.reduceMul, Nat.reduceSub, Nat.reduceLeDiff, Nat.reduceLT, Nat.reduceEqDiff, Nat.reduceBEq, Nat.reduceBNe, Nat.reduceMod, Nat.reduceDiv, Int.reduceLE, Int.reduceLT, Int.reduceToNat, Int.reduceAdd, Int.reduceSub, Int.reduceMul, Int.reduceNeg, Int.reduceEq, Int.reduceBEq, Int.reduceBNe, ↓reduceIte, reduceCtorEq, String.reduceBNe, String.reduceEq, reduceDIte, Nat.reducePow, hd, hw0, h0]
    refine Thn_n ?_
    refine hK _ _ ?_
    clear hK K
  refine AW.seq_k fun K hK => ?_
  refine AW.seq_k fun K hK => ?_
  refine AW.region (by decide) ?_
  simp only [push_cast, Nat.reduceAdd, Nat.reduceMul, Nat.reduceSub, Nat.reduceLeDiff, Nat.reduceLT, Nat.reduceEqDiff, Nat.reduceBEq, Nat.reduceBNe, Nat.reduceMod, Nat.reduceDiv, Int.reduceLE, Int.reduceLT, Int.reduceToNat, Int.reduceAdd, Int.reduceSub, Int.reduceMul, Int.reduceNeg, Int.reduceEq, Int.reduceBEq, Int.reduceBNe, ↓reduceIte, reduceCtorEq, String.reduceBNe, String.reduceEq, reduceDIte, Nat.reducePow, hd, hw0, h0]
  refine Thn_n ?_
  refine hK _ _ ?_
  clear hK K
  refine AW.cond_f rfl ?_
  refine AW.skip ?_
  refine Thn_n ?_
  refine hK _ _ ?_
  clear hK K
  refine AW.seq_k fun K hK => ?_
  refine AW.region (by decide) ?_
  simp only [push_cast, Nat.reduceAdd, Nat.reduceMul, Nat.reduceSub, Nat.reduceLeDiff, Nat.reduceLT, Nat.reduceEqDiff, Nat.reduceBEq, Nat.reduceBNe, Nat.reduceMod, Nat.reduceDiv, Int.reduceLE, Int.reduceLT, Int.reduceToNat, Int.reduceAdd, Int.reduceSub, Int.reduceMul, Int.reduceNeg, Int.reduceEq, Int.reduceBEq, Int.reduceBNe, ↓reduceIte, reduceCtorEq, String.reduceBNe, String.reduceEq, reduceDIte, Nat.reducePow, hd, hw0, h0]
  refine Thn_n ?_
  refine hK _ _ ?_
  clear hK K
  refine AW.ret ?_
  refine hQ _ _ _ ?_
  first | refine RetP.drop0 (Or.inr rfl) ?_ ?_ hwf | refine RetP.drop (Or.inr rfl) ?_ ?_ hwf
  · simp only [resA, resOne, resTv, AV.tv, push_cast, Nat.reduceAdd, Nat.reduceMul, Nat.reduceSub, Nat.reduceLeDiff, Nat.reduceLT, Nat.reduceEqDiff, Nat.reduceBEq, Nat.reduceBNe, Nat.reduceMod, Nat.reduceDiv, Int.reduceLE, Int.reduceLT, Int.reduceToNat, Int.reduceAdd, Int.reduceSub, Int.reduceMul, Int.reduceNeg, Int.reduceEq, Int.reduceBEq, Int.reduceBNe, ↓reduceIte, reduceCtorEq, String.reduceBNe, String.reduceEq, reduceDIte, Nat.reducePow, hd, hw0, h0, hr]
  · rfl
theorem floor_nz (n d : Int) (m : AMem) (hd : d ≠ 0) (hb : -4611686018427387904 ≤ n ∧ n ≤ 4611686018427387904) (h0 : (n.tmod d != 0) = true) : Ctr Tryd.prog 40 [.one (.int .i64 n), .one (.int .i64 d)] m (.one (.int .i64 (floorI n d))) m := by
  refine Ctr.enter Tryd.func40 rfl (by decide) (rs := [.tmp 4]) (nt := 23) rfl rfl fun hwf Q hQ => ?_
  have he := floor_eq (n := n) hd
  have hfb := floor_b (n := n) hd hb
  have hw1 : IntKind.i64.wrap (floorI n d) = floorI n d := wi (by omega)
  have hw0 : IntKind.i64.wrap (n.tdiv d) = n.tdiv d := by
    refine wi ?_
    rw [he] at hfb
    split at hfb <;> omega
  have hnz : n.tmod d ≠ 0 := by simpa using h0
  iterate 2
    refine AW.seq_k fun K hK => ?_
    refine AW.region (by decide) ?_
    simp only [push_cast, Nat.reduceAdd, Nat.reduceMul, Nat.reduceSub, Nat.reduceLeDiff, Nat.reduceLT, Nat.reduceEqDiff, Nat.reduceBEq, Nat.reduceBNe, Nat.reduceMod, Nat.reduceDiv, Int.reduceLE, Int.reduceLT, Int.reduceToNat, Int.reduceAdd, Int.reduceSub, Int.reduceMul, Int.reduceNeg, Int.reduceEq, Int.reduceBEq, Int.reduceBNe, ↓reduceIte, reduceCtorEq, String.reduceBNe, String.reduceEq, reduceDIte, Nat.reducePow, hd, hw0, h0]
    refine Thn_n ?_
    refine hK _ _ ?_
    clear hK K
  refine AW.seq_k fun K hK => ?_
  refine AW.seq_k fun K hK => ?_
  refine AW.region (by decide) ?_
  simp only [push_cast, Nat.reduceAdd, Nat.reduceMul, Nat.reduceSub, Nat.reduceLeDiff, Nat.reduceLT, Nat.reduceEqDiff, Nat.reduceBEq, Nat.reduceBNe, Nat.reduceMod, Nat.reduceDiv, Int.reduceLE, Int.reduceLT, Int.reduceToNat, Int.reduceAdd, Int.reduceSub, Int.reduceMul, Int.reduceNeg, Int.reduceEq, Int.reduceBEq, Int.reduceBNe, ↓reduceIte, reduceCtorEq, String.reduceBNe, String.reduceEq, reduceDIte, Nat.reducePow, hd, hw0, h0]
  refine Thn_n ?_
  refine hK _ _ ?_
  clear hK K
  refine AW.cond rfl (fun h19 => ?_) (fun h19 => ?_)
  · have hr : IntKind.i64.wrap (n.tdiv d - 1) = floorI n d := by
      rw [if_pos ⟨hnz, h19⟩] at he; rw [← he]; exact hw1
    refine AW.region (by decide) ?_
    simp only [push_cast, Nat.reduceAdd, Nat.reduceMul, Nat.reduceSub, Nat.reduceLeDiff, Nat.reduceLT, Nat.reduceEqDiff, Nat.reduceBEq, Nat.reduceBNe, Nat.reduceMod, Nat.reduceDiv, Int.reduceLE, Int.reduceLT, Int.reduceToNat, Int.reduceAdd, Int.reduceSub, Int.reduceMul, Int.reduceNeg, Int.reduceEq, Int.reduceBEq, Int.reduceBNe, ↓reduceIte, reduceCtorEq, String.reduceBNe, String.reduceEq, reduceDIte, Nat.reducePow, hd, hw0, h0, hr]
    refine Thn_n ?_
    refine hK _ _ ?_
    clear hK K
    refine AW.seq_k fun K hK => ?_
    refine AW.region (by decide) ?_
    simp only [push_cast, Nat.reduceAdd, Nat.reduceMul, Nat.reduceSub, Nat.reduceLeDiff, Nat.reduceLT, Nat.reduceEqDiff, Nat.reduceBEq, Nat.reduceBNe, Nat.reduceMod, Nat.reduceDiv, Int.reduceLE, Int.reduceLT, Int.reduceToNat, Int.reduceAdd, Int.reduceSub, Int.reduceMul, Int.reduceNeg, Int.reduceEq, Int.reduceBEq, Int.reduceBNe, ↓reduceIte, reduceCtorEq, String.reduceBNe, String.reduceEq, reduceDIte, Nat.reducePow, hd, hw0, h0, hr]
    refine Thn_n ?_
    refine hK _ _ ?_
    clear hK K
    refine AW.ret ?_
    refine hQ _ _ _ ?_
    first | refine RetP.drop0 (Or.inr rfl) ?_ ?_ hwf | refine RetP.drop (Or.inr rfl) ?_ ?_ hwf
    · simp only [resA, resOne, resTv, AV.tv, push_cast, Nat.reduceAdd, Nat.reduceMul, Nat.reduceSub, Nat.reduceLeDiff, Nat.reduceLT, Nat.reduceEqDiff, Nat.reduceBEq, Nat.reduceBNe, Nat.reduceMod, Nat.reduceDiv, Int.reduceLE, Int.reduceLT, Int.reduceToNat, Int.reduceAdd, Int.reduceSub, Int.reduceMul, Int.reduceNeg, Int.reduceEq, Int.reduceBEq, Int.reduceBNe, ↓reduceIte, reduceCtorEq, String.reduceBNe, String.reduceEq, reduceDIte, Nat.reducePow, hd, hw0, h0, hr, hr]
    · rfl
  · have hr : floorI n d = n.tdiv d := by
      rw [if_neg (fun hc => by have h2 := hc.2; unfold bne at h2; rw [h19] at h2; cases h2)] at he; exact he
    refine AW.skip ?_
    refine Thn_n ?_
    refine hK _ _ ?_
    clear hK K
    refine AW.seq_k fun K hK => ?_
    refine AW.region (by decide) ?_
    simp only [push_cast, Nat.reduceAdd, Nat.reduceMul, Nat.reduceSub, Nat.reduceLeDiff, Nat.reduceLT, Nat.reduceEqDiff, Nat.reduceBEq, Nat.reduceBNe, Nat.reduceMod, Nat.reduceDiv, Int.reduceLE, Int.reduceLT, Int.reduceToNat, Int.reduceAdd, Int.reduceSub, Int.reduceMul, Int.reduceNeg, Int.reduceEq, Int.reduceBEq, Int.reduceBNe, ↓reduceIte, reduceCtorEq, String.reduceBNe, String.reduceEq, reduceDIte, Nat.reducePow, hd, hw0, h0]
    refine Thn_n ?_
    refine hK _ _ ?_
    clear hK K
    refine AW.ret ?_
    refine hQ _ _ _ ?_
    first | refine RetP.drop0 (Or.inr rfl) ?_ ?_ hwf | refine RetP.drop (Or.inr rfl) ?_ ?_ hwf
    · simp only [resA, resOne, resTv, AV.tv, push_cast, Nat.reduceAdd, Nat.reduceMul, Nat.reduceSub, Nat.reduceLeDiff, Nat.reduceLT, Nat.reduceEqDiff, Nat.reduceBEq, Nat.reduceBNe, Nat.reduceMod, Nat.reduceDiv, Int.reduceLE, Int.reduceLT, Int.reduceToNat, Int.reduceAdd, Int.reduceSub, Int.reduceMul, Int.reduceNeg, Int.reduceEq, Int.reduceBEq, Int.reduceBNe, ↓reduceIte, reduceCtorEq, String.reduceBNe, String.reduceEq, reduceDIte, Nat.reducePow, hd, hw0, h0, hr]
    · rfl
theorem floor_c (n d : Int) (m : AMem) (hd : d ≠ 0) (hb : -4611686018427387904 ≤ n ∧ n ≤ 4611686018427387904) : Ctr Tryd.prog 40 [.one (.int .i64 n), .one (.int .i64 d)] m (.one (.int .i64 (floorI n d))) m := by
  cases h0 : (n.tmod d != 0)
  · exact floor_z n d m hd hb h0
  · exact floor_nz n d m hd hb h0
end Go.Proofs.YtlhppfdokgeijaaDoor

set_option linter.unusedSimpArgs false
set_option linter.unusedVariables false
set_option maxRecDepth 100000
set_option maxHeartbeats 4000000
namespace Go.Proofs.YtlhppfdokgeijaaDoor
open Go Go.Eng

def addI (a b : Int) : Int := heldI (heldI a + heldI b)
def subI (a b : Int) : Int := heldI (heldI a - heldI b)
def absI (a : Int) : Int := if heldI a < 0 then -heldI a else heldI a
def ofI (n : Int) : Int := if 32768 < n then 2147483648 else if n < -32768 then -2147483648 else n * 65536
def mulI (a b : Int) : Int := heldI (heldI a * heldI b / 65536)
def divI (a b : Int) : Int := if heldI b = 0 then (if 0 < heldI a then 2147483648 else if heldI a < 0 then -2147483648 else 0) else heldI (floorI (heldI a * 65536) (heldI b))
def unitI (a : Int) : Int := if a < 0 then 0 else if 65536 < a then 65536 else a
def lerpI (a b t : Int) : Int := heldI (heldI a + (heldI b - heldI a) * unitI t / 65536)
theorem unit_b (t : Int) : 0 ≤ unitI t ∧ unitI t ≤ 65536 := by unfold unitI; split <;> (try split) <;> omega
theorem add_c (a b : Int) (m : AMem) : Ctr Tryd.prog 18 [.one (.int .i64 a), .one (.int .i64 b)] m (.one (.int .i64 (addI a b))) m := by
  refine Ctr.enter Tryd.func18 rfl (by decide) (rs := [.tmp 4]) (nt := 11) rfl rfl fun hwf Q hQ => ?_
  have ha := held_b a
  have hb := held_b b
  have hw : IntKind.i64.wrap (heldI a + heldI b) = heldI a + heldI b := wi (by omega)
  
  refine AW.seq_k fun K hK => ?_
  refine AW.region (by decide) ?_
  simp only [push_cast, Nat.reduceAdd, Nat.reduceMul, Nat.reduceSub, Nat.reduceLeDiff, Nat.reduceLT, Nat.reduceEqDiff, Nat.reduceBEq, Nat.reduceBNe, Nat.reduceMod, Nat.reduceDiv, Int.reduceLE, Int.reduceLT, Int.reduceToNat, Int.reduceAdd, Int.reduceSub, Int.reduceMul, Int.reduceNeg, Int.reduceEq, Int.reduceBEq, Int.reduceBNe, ↓reduceIte, reduceCtorEq, String.reduceBNe, String.reduceEq, reduceDIte, Nat.reducePow, hw]
  refine Thn_n ?_
  refine hK _ _ ?_
  clear hK K
  refine AW.seq_k fun K hK => ?_
  refine AW.region (by decide) ?_
  iterate 2
    simp only [push_cast, Nat.reduceAdd, Nat.reduceMul, Nat.reduceSub, Nat.reduceLeDiff, Nat.reduceLT, Nat.reduceEqDiff, Nat.reduceBEq, Nat.reduceBNe, Nat.reduceMod, Nat.reduceDiv, Int.reduceLE, Int.reduceLT, Int.reduceToNat, Int.reduceAdd, Int.reduceSub, Int.reduceMul, Int.reduceNeg, Int.reduceEq, Int.reduceBEq, Int.reduceBNe, ↓reduceIte, reduceCtorEq, String.reduceBNe, String.reduceEq, reduceDIte, Nat.reducePow, hw]
    refine CThen.by (in_c _ _) ?_
  simp only [push_cast, Nat.reduceAdd, Nat.reduceMul, Nat.reduceSub, Nat.reduceLeDiff, Nat.reduceLT, Nat.reduceEqDiff, Nat.reduceBEq, Nat.reduceBNe, Nat.reduceMod, Nat.reduceDiv, Int.reduceLE, Int.reduceLT, Int.reduceToNat, Int.reduceAdd, Int.reduceSub, Int.reduceMul, Int.reduceNeg, Int.reduceEq, Int.reduceBEq, Int.reduceBNe, ↓reduceIte, reduceCtorEq, String.reduceBNe, String.reduceEq, reduceDIte, Nat.reducePow, hw]
  refine CThen.by (clamp_c _ _) ?_
  simp only [push_cast, Nat.reduceAdd, Nat.reduceMul, Nat.reduceSub, Nat.reduceLeDiff, Nat.reduceLT, Nat.reduceEqDiff, Nat.reduceBEq, Nat.reduceBNe, Nat.reduceMod, Nat.reduceDiv, Int.reduceLE, Int.reduceLT, Int.reduceToNat, Int.reduceAdd, Int.reduceSub, Int.reduceMul, Int.reduceNeg, Int.reduceEq, Int.reduceBEq, Int.reduceBNe, ↓reduceIte, reduceCtorEq, String.reduceBNe, String.reduceEq, reduceDIte, Nat.reducePow, hw]
  refine Thn_n ?_
  refine hK _ _ ?_
  clear hK K
  refine AW.ret ?_
  refine hQ _ _ _ ?_
  first | refine RetP.drop0 (Or.inr rfl) ?_ ?_ hwf | refine RetP.drop (Or.inr rfl) ?_ ?_ hwf
  · simp only [resA, resOne, resTv, AV.tv, push_cast, Nat.reduceAdd, Nat.reduceMul, Nat.reduceSub, Nat.reduceLeDiff, Nat.reduceLT, Nat.reduceEqDiff, Nat.reduceBEq, Nat.reduceBNe, Nat.reduceMod, Nat.reduceDiv, Int.reduceLE, Int.reduceLT, Int.reduceToNat, Int.reduceAdd, Int.reduceSub, Int.reduceMul, Int.reduceNeg, Int.reduceEq, Int.reduceBEq, Int.reduceBNe, ↓reduceIte, reduceCtorEq, String.reduceBNe, String.reduceEq, reduceDIte, Nat.reducePow, hw, addI, subI]
  · rfl
theorem radd_c (a b : Int) (m : AMem) : Ctr Tryd.prog 22 [.one (.int .i64 a), .one (.int .i64 b)] m (.one (.int .i64 (addI a b))) m := by
  refine Ctr.enter Tryd.func22 rfl (by decide) (rs := [.tmp 4]) (nt := 11) rfl rfl fun hwf Q hQ => ?_
  have ha := held_b a
  have hb := held_b b
  have hw : IntKind.i64.wrap (heldI a + heldI b) = heldI a + heldI b := wi (by omega)
  
  refine AW.seq_k fun K hK => ?_
  refine AW.region (by decide) ?_
  simp only [push_cast, Nat.reduceAdd, Nat.reduceMul, Nat.reduceSub, Nat.reduceLeDiff, Nat.reduceLT, Nat.reduceEqDiff, Nat.reduceBEq, Nat.reduceBNe, Nat.reduceMod, Nat.reduceDiv, Int.reduceLE, Int.reduceLT, Int.reduceToNat, Int.reduceAdd, Int.reduceSub, Int.reduceMul, Int.reduceNeg, Int.reduceEq, Int.reduceBEq, Int.reduceBNe, ↓reduceIte, reduceCtorEq, String.reduceBNe, String.reduceEq, reduceDIte, Nat.reducePow, hw]
  refine Thn_n ?_
  refine hK _ _ ?_
  clear hK K
  refine AW.seq_k fun K hK => ?_
  refine AW.region (by decide) ?_
  iterate 3
    simp only [push_cast, Nat.reduceAdd, Nat.reduceMul, Nat.reduceSub, Nat.reduceLeDiff, Nat.reduceLT, Nat.reduceEqDiff, Nat.reduceBEq, Nat.reduceBNe, Nat.reduceMod, Nat.reduceDiv, Int.reduceLE, Int.reduceLT, Int.reduceToNat, Int.reduceAdd, Int.reduceSub, Int.reduceMul, Int.reduceNeg, Int.reduceEq, Int.reduceBEq, Int.reduceBNe, ↓reduceIte, reduceCtorEq, String.reduceBNe, String.reduceEq, reduceDIte, Nat.reducePow, hw]
    refine CThen.by (held_c _ _) ?_
  simp only [push_cast, Nat.reduceAdd, Nat.reduceMul, Nat.reduceSub, Nat.reduceLeDiff, Nat.reduceLT, Nat.reduceEqDiff, Nat.reduceBEq, Nat.reduceBNe, Nat.reduceMod, Nat.reduceDiv, Int.reduceLE, Int.reduceLT, Int.reduceToNat, Int.reduceAdd, Int.reduceSub, Int.reduceMul, Int.reduceNeg, Int.reduceEq, Int.reduceBEq, Int.reduceBNe, ↓reduceIte, reduceCtorEq, String.reduceBNe, String.reduceEq, reduceDIte, Nat.reducePow, hw]
  refine Thn_n ?_
  refine hK _ _ ?_
  clear hK K
  refine AW.ret ?_
  refine hQ _ _ _ ?_
  first | refine RetP.drop0 (Or.inr rfl) ?_ ?_ hwf | refine RetP.drop (Or.inr rfl) ?_ ?_ hwf
  · simp only [resA, resOne, resTv, AV.tv, push_cast, Nat.reduceAdd, Nat.reduceMul, Nat.reduceSub, Nat.reduceLeDiff, Nat.reduceLT, Nat.reduceEqDiff, Nat.reduceBEq, Nat.reduceBNe, Nat.reduceMod, Nat.reduceDiv, Int.reduceLE, Int.reduceLT, Int.reduceToNat, Int.reduceAdd, Int.reduceSub, Int.reduceMul, Int.reduceNeg, Int.reduceEq, Int.reduceBEq, Int.reduceBNe, ↓reduceIte, reduceCtorEq, String.reduceBNe, String.reduceEq, reduceDIte, Nat.reducePow, hw, addI, subI]
  · rfl
theorem sub_c (a b : Int) (m : AMem) : Ctr Tryd.prog 23 [.one (.int .i64 a), .one (.int .i64 b)] m (.one (.int .i64 (subI a b))) m := by
  refine Ctr.enter Tryd.func23 rfl (by decide) (rs := [.tmp 4]) (nt := 11) rfl rfl fun hwf Q hQ => ?_
  have ha := held_b a
  have hb := held_b b
  have hw : IntKind.i64.wrap (heldI a - heldI b) = heldI a - heldI b := wi (by omega)
  
  refine AW.seq_k fun K hK => ?_
  refine AW.region (by decide) ?_
  simp only [push_cast, Nat.reduceAdd, Nat.reduceMul, Nat.reduceSub, Nat.reduceLeDiff, Nat.reduceLT, Nat.reduceEqDiff, Nat.reduceBEq, Nat.reduceBNe, Nat.reduceMod, Nat.reduceDiv, Int.reduceLE, Int.reduceLT, Int.reduceToNat, Int.reduceAdd, Int.reduceSub, Int.reduceMul, Int.reduceNeg, Int.reduceEq, Int.reduceBEq, Int.reduceBNe, ↓reduceIte, reduceCtorEq, String.reduceBNe, String.reduceEq, reduceDIte, Nat.reducePow, hw]
  refine Thn_n ?_
  refine hK _ _ ?_
  clear hK K
  refine AW.seq_k fun K hK => ?_
  refine AW.region (by decide) ?_
  iterate 2
    simp only [push_cast, Nat.reduceAdd, Nat.reduceMul, Nat.reduceSub, Nat.reduceLeDiff, Nat.reduceLT, Nat.reduceEqDiff, Nat.reduceBEq, Nat.reduceBNe, Nat.reduceMod, Nat.reduceDiv, Int.reduceLE, Int.reduceLT, Int.reduceToNat, Int.reduceAdd, Int.reduceSub, Int.reduceMul, Int.reduceNeg, Int.reduceEq, Int.reduceBEq, Int.reduceBNe, ↓reduceIte, reduceCtorEq, String.reduceBNe, String.reduceEq, reduceDIte, Nat.reducePow, hw]
    refine CThen.by (in_c _ _) ?_
  simp only [push_cast, Nat.reduceAdd, Nat.reduceMul, Nat.reduceSub, Nat.reduceLeDiff, Nat.reduceLT, Nat.reduceEqDiff, Nat.reduceBEq, Nat.reduceBNe, Nat.reduceMod, Nat.reduceDiv, Int.reduceLE, Int.reduceLT, Int.reduceToNat, Int.reduceAdd, Int.reduceSub, Int.reduceMul, Int.reduceNeg, Int.reduceEq, Int.reduceBEq, Int.reduceBNe, ↓reduceIte, reduceCtorEq, String.reduceBNe, String.reduceEq, reduceDIte, Nat.reducePow, hw]
  refine CThen.by (clamp_c _ _) ?_
  simp only [push_cast, Nat.reduceAdd, Nat.reduceMul, Nat.reduceSub, Nat.reduceLeDiff, Nat.reduceLT, Nat.reduceEqDiff, Nat.reduceBEq, Nat.reduceBNe, Nat.reduceMod, Nat.reduceDiv, Int.reduceLE, Int.reduceLT, Int.reduceToNat, Int.reduceAdd, Int.reduceSub, Int.reduceMul, Int.reduceNeg, Int.reduceEq, Int.reduceBEq, Int.reduceBNe, ↓reduceIte, reduceCtorEq, String.reduceBNe, String.reduceEq, reduceDIte, Nat.reducePow, hw]
  refine Thn_n ?_
  refine hK _ _ ?_
  clear hK K
  refine AW.ret ?_
  refine hQ _ _ _ ?_
  first | refine RetP.drop0 (Or.inr rfl) ?_ ?_ hwf | refine RetP.drop (Or.inr rfl) ?_ ?_ hwf
  · simp only [resA, resOne, resTv, AV.tv, push_cast, Nat.reduceAdd, Nat.reduceMul, Nat.reduceSub, Nat.reduceLeDiff, Nat.reduceLT, Nat.reduceEqDiff, Nat.reduceBEq, Nat.reduceBNe, Nat.reduceMod, Nat.reduceDiv, Int.reduceLE, Int.reduceLT, Int.reduceToNat, Int.reduceAdd, Int.reduceSub, Int.reduceMul, Int.reduceNeg, Int.reduceEq, Int.reduceBEq, Int.reduceBNe, ↓reduceIte, reduceCtorEq, String.reduceBNe, String.reduceEq, reduceDIte, Nat.reducePow, hw, addI, subI]
  · rfl
theorem rsub_c (a b : Int) (m : AMem) : Ctr Tryd.prog 24 [.one (.int .i64 a), .one (.int .i64 b)] m (.one (.int .i64 (subI a b))) m := by
  refine Ctr.enter Tryd.func24 rfl (by decide) (rs := [.tmp 4]) (nt := 11) rfl rfl fun hwf Q hQ => ?_
  have ha := held_b a
  have hb := held_b b
  have hw : IntKind.i64.wrap (heldI a - heldI b) = heldI a - heldI b := wi (by omega)
  
  refine AW.seq_k fun K hK => ?_
  refine AW.region (by decide) ?_
  simp only [push_cast, Nat.reduceAdd, Nat.reduceMul, Nat.reduceSub, Nat.reduceLeDiff, Nat.reduceLT, Nat.reduceEqDiff, Nat.reduceBEq, Nat.reduceBNe, Nat.reduceMod, Nat.reduceDiv, Int.reduceLE, Int.reduceLT, Int.reduceToNat, Int.reduceAdd, Int.reduceSub, Int.reduceMul, Int.reduceNeg, Int.reduceEq, Int.reduceBEq, Int.reduceBNe, ↓reduceIte, reduceCtorEq, String.reduceBNe, String.reduceEq, reduceDIte, Nat.reducePow, hw]
  refine Thn_n ?_
  refine hK _ _ ?_
  clear hK K
  refine AW.seq_k fun K hK => ?_
  refine AW.region (by decide) ?_
  iterate 3
    simp only [push_cast, Nat.reduceAdd, Nat.reduceMul, Nat.reduceSub, Nat.reduceLeDiff, Nat.reduceLT, Nat.reduceEqDiff, Nat.reduceBEq, Nat.reduceBNe, Nat.reduceMod, Nat.reduceDiv, Int.reduceLE, Int.reduceLT, Int.reduceToNat, Int.reduceAdd, Int.reduceSub, Int.reduceMul, Int.reduceNeg, Int.reduceEq, Int.reduceBEq, Int.reduceBNe, ↓reduceIte, reduceCtorEq, String.reduceBNe, String.reduceEq, reduceDIte, Nat.reducePow, hw]
    refine CThen.by (held_c _ _) ?_
  simp only [push_cast, Nat.reduceAdd, Nat.reduceMul, Nat.reduceSub, Nat.reduceLeDiff, Nat.reduceLT, Nat.reduceEqDiff, Nat.reduceBEq, Nat.reduceBNe, Nat.reduceMod, Nat.reduceDiv, Int.reduceLE, Int.reduceLT, Int.reduceToNat, Int.reduceAdd, Int.reduceSub, Int.reduceMul, Int.reduceNeg, Int.reduceEq, Int.reduceBEq, Int.reduceBNe, ↓reduceIte, reduceCtorEq, String.reduceBNe, String.reduceEq, reduceDIte, Nat.reducePow, hw]
  refine Thn_n ?_
  refine hK _ _ ?_
  clear hK K
  refine AW.ret ?_
  refine hQ _ _ _ ?_
  first | refine RetP.drop0 (Or.inr rfl) ?_ ?_ hwf | refine RetP.drop (Or.inr rfl) ?_ ?_ hwf
  · simp only [resA, resOne, resTv, AV.tv, push_cast, Nat.reduceAdd, Nat.reduceMul, Nat.reduceSub, Nat.reduceLeDiff, Nat.reduceLT, Nat.reduceEqDiff, Nat.reduceBEq, Nat.reduceBNe, Nat.reduceMod, Nat.reduceDiv, Int.reduceLE, Int.reduceLT, Int.reduceToNat, Int.reduceAdd, Int.reduceSub, Int.reduceMul, Int.reduceNeg, Int.reduceEq, Int.reduceBEq, Int.reduceBNe, ↓reduceIte, reduceCtorEq, String.reduceBNe, String.reduceEq, reduceDIte, Nat.reducePow, hw, addI, subI]
  · rfl
theorem neg_c (a : Int) (m : AMem) : Ctr Tryd.prog 25 [.one (.int .i64 a)] m (.one (.int .i64 (-heldI a))) m := by
  refine Ctr.enter Tryd.func25 rfl (by decide) (rs := [.tmp 2]) (nt := 7) rfl rfl fun hwf Q hQ => ?_
  have ha := held_b a
  have hn : heldI (-heldI a) = -heldI a := held_id (by omega)
  have hw : IntKind.i64.wrap (-heldI a) = -heldI a := wi (by omega)
  
  refine AW.seq_k fun K hK => ?_
  refine AW.region (by decide) ?_
  simp only [push_cast, Nat.reduceAdd, Nat.reduceMul, Nat.reduceSub, Nat.reduceLeDiff, Nat.reduceLT, Nat.reduceEqDiff, Nat.reduceBEq, Nat.reduceBNe, Nat.reduceMod, Nat.reduceDiv, Int.reduceLE, Int.reduceLT, Int.reduceToNat, Int.reduceAdd, Int.reduceSub, Int.reduceMul, Int.reduceNeg, Int.reduceEq, Int.reduceBEq, Int.reduceBNe, ↓reduceIte, reduceCtorEq, String.reduceBNe, String.reduceEq, reduceDIte, Nat.reducePow, Int.zero_sub, hw]
  refine Thn_n ?_
  refine hK _ _ ?_
  clear hK K
  refine AW.seq_k fun K hK => ?_
  refine AW.region (by decide) ?_
  simp only [push_cast, Nat.reduceAdd, Nat.reduceMul, Nat.reduceSub, Nat.reduceLeDiff, Nat.reduceLT, Nat.reduceEqDiff, Nat.reduceBEq, Nat.reduceBNe, Nat.reduceMod, Nat.reduceDiv, Int.reduceLE, Int.reduceLT, Int.reduceToNat, Int.reduceAdd, Int.reduceSub, Int.reduceMul, Int.reduceNeg, Int.reduceEq, Int.reduceBEq, Int.reduceBNe, ↓reduceIte, reduceCtorEq, String.reduceBNe, String.reduceEq, reduceDIte, Nat.reducePow, Int.zero_sub, hw]
  refine CThen.by (in_c _ _) ?_
  simp only [push_cast, Nat.reduceAdd, Nat.reduceMul, Nat.reduceSub, Nat.reduceLeDiff, Nat.reduceLT, Nat.reduceEqDiff, Nat.reduceBEq, Nat.reduceBNe, Nat.reduceMod, Nat.reduceDiv, Int.reduceLE, Int.reduceLT, Int.reduceToNat, Int.reduceAdd, Int.reduceSub, Int.reduceMul, Int.reduceNeg, Int.reduceEq, Int.reduceBEq, Int.reduceBNe, ↓reduceIte, reduceCtorEq, String.reduceBNe, String.reduceEq, reduceDIte, Nat.reducePow, Int.zero_sub, hw]
  refine CThen.by (clamp_c _ _) ?_
  simp only [push_cast, Nat.reduceAdd, Nat.reduceMul, Nat.reduceSub, Nat.reduceLeDiff, Nat.reduceLT, Nat.reduceEqDiff, Nat.reduceBEq, Nat.reduceBNe, Nat.reduceMod, Nat.reduceDiv, Int.reduceLE, Int.reduceLT, Int.reduceToNat, Int.reduceAdd, Int.reduceSub, Int.reduceMul, Int.reduceNeg, Int.reduceEq, Int.reduceBEq, Int.reduceBNe, ↓reduceIte, reduceCtorEq, String.reduceBNe, String.reduceEq, reduceDIte, Nat.reducePow, Int.zero_sub, hw]
  refine Thn_n ?_
  refine hK _ _ ?_
  clear hK K
  refine AW.ret ?_
  refine hQ _ _ _ ?_
  first | refine RetP.drop0 (Or.inr rfl) ?_ ?_ hwf | refine RetP.drop (Or.inr rfl) ?_ ?_ hwf
  · simp only [resA, resOne, resTv, AV.tv, push_cast, Nat.reduceAdd, Nat.reduceMul, Nat.reduceSub, Nat.reduceLeDiff, Nat.reduceLT, Nat.reduceEqDiff, Nat.reduceBEq, Nat.reduceBNe, Nat.reduceMod, Nat.reduceDiv, Int.reduceLE, Int.reduceLT, Int.reduceToNat, Int.reduceAdd, Int.reduceSub, Int.reduceMul, Int.reduceNeg, Int.reduceEq, Int.reduceBEq, Int.reduceBNe, ↓reduceIte, reduceCtorEq, String.reduceBNe, String.reduceEq, reduceDIte, Nat.reducePow, Int.zero_sub, hw, hn]
  · rfl
theorem abs_c (a : Int) (m : AMem) : Ctr Tryd.prog 26 [.one (.int .i64 a)] m (.one (.int .i64 (absI a))) m := by
  refine Ctr.enter Tryd.func26 rfl (by decide) (rs := [.tmp 2]) (nt := 10) rfl rfl fun hwf Q hQ => ?_
  have ha := held_b a
  have hn : heldI (Eng.maxI (heldI a) (-heldI a)) = absI a := by
    rw [held_id (by unfold Eng.maxI; split <;> omega)]; unfold Eng.maxI absI; split <;> split <;> omega
  have hw : IntKind.i64.wrap (-heldI a) = -heldI a := wi (by omega)
  
  refine AW.seq_k fun K hK => ?_
  refine AW.region (by decide) ?_
  simp only [push_cast, Nat.reduceAdd, Nat.reduceMul, Nat.reduceSub, Nat.reduceLeDiff, Nat.reduceLT, Nat.reduceEqDiff, Nat.reduceBEq, Nat.reduceBNe, Nat.reduceMod, Nat.reduceDiv, Int.reduceLE, Int.reduceLT, Int.reduceToNat, Int.reduceAdd, Int.reduceSub, Int.reduceMul, Int.reduceNeg, Int.reduceEq, Int.reduceBEq, Int.reduceBNe, ↓reduceIte, reduceCtorEq, String.reduceBNe, String.reduceEq, reduceDIte, Nat.reducePow, Int.zero_sub, hw]
  refine Thn_n ?_
  refine hK _ _ ?_
  clear hK K
  refine AW.seq_k fun K hK => ?_
  refine AW.region (by decide) ?_
  iterate 2
    simp only [push_cast, Nat.reduceAdd, Nat.reduceMul, Nat.reduceSub, Nat.reduceLeDiff, Nat.reduceLT, Nat.reduceEqDiff, Nat.reduceBEq, Nat.reduceBNe, Nat.reduceMod, Nat.reduceDiv, Int.reduceLE, Int.reduceLT, Int.reduceToNat, Int.reduceAdd, Int.reduceSub, Int.reduceMul, Int.reduceNeg, Int.reduceEq, Int.reduceBEq, Int.reduceBNe, ↓reduceIte, reduceCtorEq, String.reduceBNe, String.reduceEq, reduceDIte, Nat.reducePow, Int.zero_sub, hw]
    refine CThen.by (in_c _ _) ?_
  simp only [push_cast, Nat.reduceAdd, Nat.reduceMul, Nat.reduceSub, Nat.reduceLeDiff, Nat.reduceLT, Nat.reduceEqDiff, Nat.reduceBEq, Nat.reduceBNe, Nat.reduceMod, Nat.reduceDiv, Int.reduceLE, Int.reduceLT, Int.reduceToNat, Int.reduceAdd, Int.reduceSub, Int.reduceMul, Int.reduceNeg, Int.reduceEq, Int.reduceBEq, Int.reduceBNe, ↓reduceIte, reduceCtorEq, String.reduceBNe, String.reduceEq, reduceDIte, Nat.reducePow, Int.zero_sub, hw]
  refine CThen.by (clamp_c _ _) ?_
  simp only [push_cast, Nat.reduceAdd, Nat.reduceMul, Nat.reduceSub, Nat.reduceLeDiff, Nat.reduceLT, Nat.reduceEqDiff, Nat.reduceBEq, Nat.reduceBNe, Nat.reduceMod, Nat.reduceDiv, Int.reduceLE, Int.reduceLT, Int.reduceToNat, Int.reduceAdd, Int.reduceSub, Int.reduceMul, Int.reduceNeg, Int.reduceEq, Int.reduceBEq, Int.reduceBNe, ↓reduceIte, reduceCtorEq, String.reduceBNe, String.reduceEq, reduceDIte, Nat.reducePow, Int.zero_sub, hw]
  refine Thn_n ?_
  refine hK _ _ ?_
  clear hK K
  refine AW.ret ?_
  refine hQ _ _ _ ?_
  first | refine RetP.drop0 (Or.inr rfl) ?_ ?_ hwf | refine RetP.drop (Or.inr rfl) ?_ ?_ hwf
  · simp only [resA, resOne, resTv, AV.tv, push_cast, Nat.reduceAdd, Nat.reduceMul, Nat.reduceSub, Nat.reduceLeDiff, Nat.reduceLT, Nat.reduceEqDiff, Nat.reduceBEq, Nat.reduceBNe, Nat.reduceMod, Nat.reduceDiv, Int.reduceLE, Int.reduceLT, Int.reduceToNat, Int.reduceAdd, Int.reduceSub, Int.reduceMul, Int.reduceNeg, Int.reduceEq, Int.reduceBEq, Int.reduceBNe, ↓reduceIte, reduceCtorEq, String.reduceBNe, String.reduceEq, reduceDIte, Nat.reducePow, Int.zero_sub, hw, hn]
  · rfl
theorem of_c (a : Int) (m : AMem) : Ctr Tryd.prog 20 [.one (.int .i64 a)] m (.one (.int .i64 (ofI a))) m := by
  refine Ctr.enter Tryd.func20 rfl (by decide) (rs := [.tmp 2]) (nt := 8) rfl rfl fun hwf Q hQ => ?_
  have hm : -1048576 ≤ Eng.maxI (-1048576) (Eng.minI a 1048576) ∧ Eng.maxI (-1048576) (Eng.minI a 1048576) ≤ 1048576 := by
    unfold Eng.maxI Eng.minI; split <;> split at * <;> omega
  have hn : heldI (Eng.maxI (-1048576) (Eng.minI a 1048576) * 65536) = ofI a := by
    unfold Eng.maxI Eng.minI heldI ofI; (repeat' split) <;> omega
  have hw0 : IntKind.i64.wrap (Eng.maxI (-1048576) (Eng.minI a 1048576)) = Eng.maxI (-1048576) (Eng.minI a 1048576) := wi (by omega)
  have hw : IntKind.i64.wrap (Eng.maxI (-1048576) (Eng.minI a 1048576) * 65536) = Eng.maxI (-1048576) (Eng.minI a 1048576) * 65536 := wi (by omega)
  refine AW.seq_k fun K hK => ?_
  refine AW.region (by decide) ?_
  simp only [push_cast, Nat.reduceAdd, Nat.reduceMul, Nat.reduceSub, Nat.reduceLeDiff, Nat.reduceLT, Nat.reduceEqDiff, Nat.reduceBEq, Nat.reduceBNe, Nat.reduceMod, Nat.reduceDiv, Int.reduceLE, Int.reduceLT, Int.reduceToNat, Int.reduceAdd, Int.reduceSub, Int.reduceMul, Int.reduceNeg, Int.reduceEq, Int.reduceBEq, Int.reduceBNe, ↓reduceIte, reduceCtorEq, String.reduceBNe, String.reduceEq, reduceDIte, Nat.reducePow, hw0, hw]
  refine Thn_n ?_
  refine hK _ _ ?_
  clear hK K
  refine AW.seq_k fun K hK => ?_
  refine AW.region (by decide) ?_
  simp only [push_cast, Nat.reduceAdd, Nat.reduceMul, Nat.reduceSub, Nat.reduceLeDiff, Nat.reduceLT, Nat.reduceEqDiff, Nat.reduceBEq, Nat.reduceBNe, Nat.reduceMod, Nat.reduceDiv, Int.reduceLE, Int.reduceLT, Int.reduceToNat, Int.reduceAdd, Int.reduceSub, Int.reduceMul, Int.reduceNeg, Int.reduceEq, Int.reduceBEq, Int.reduceBNe, ↓reduceIte, reduceCtorEq, String.reduceBNe, String.reduceEq, reduceDIte, Nat.reducePow, hw0, hw]
  refine CThen.by (clamp_c _ _) ?_
  simp only [push_cast, Nat.reduceAdd, Nat.reduceMul, Nat.reduceSub, Nat.reduceLeDiff, Nat.reduceLT, Nat.reduceEqDiff, Nat.reduceBEq, Nat.reduceBNe, Nat.reduceMod, Nat.reduceDiv, Int.reduceLE, Int.reduceLT, Int.reduceToNat, Int.reduceAdd, Int.reduceSub, Int.reduceMul, Int.reduceNeg, Int.reduceEq, Int.reduceBEq, Int.reduceBNe, ↓reduceIte, reduceCtorEq, String.reduceBNe, String.reduceEq, reduceDIte, Nat.reducePow, hw0, hw]
  refine Thn_n ?_
  refine hK _ _ ?_
  clear hK K
  refine AW.ret ?_
  refine hQ _ _ _ ?_
  first | refine RetP.drop0 (Or.inr rfl) ?_ ?_ hwf | refine RetP.drop (Or.inr rfl) ?_ ?_ hwf
  · simp only [resA, resOne, resTv, AV.tv, push_cast, Nat.reduceAdd, Nat.reduceMul, Nat.reduceSub, Nat.reduceLeDiff, Nat.reduceLT, Nat.reduceEqDiff, Nat.reduceBEq, Nat.reduceBNe, Nat.reduceMod, Nat.reduceDiv, Int.reduceLE, Int.reduceLT, Int.reduceToNat, Int.reduceAdd, Int.reduceSub, Int.reduceMul, Int.reduceNeg, Int.reduceEq, Int.reduceBEq, Int.reduceBNe, ↓reduceIte, reduceCtorEq, String.reduceBNe, String.reduceEq, reduceDIte, Nat.reducePow, hw0, hw, hn]
  · rfl
theorem rof_c (a : Int) (m : AMem) : Ctr Tryd.prog 21 [.one (.int .i64 a)] m (.one (.int .i64 (ofI a))) m := by
  refine Ctr.enter Tryd.func21 rfl (by decide) (rs := [.tmp 2]) (nt := 9) rfl rfl fun hwf Q hQ => ?_
  refine AW.seq_k fun K hK => ?_
  refine AW.region (by decide) ?_
  simp only [push_cast, Nat.reduceAdd, Nat.reduceMul, Nat.reduceSub, Nat.reduceLeDiff, Nat.reduceLT, Nat.reduceEqDiff, Nat.reduceBEq, Nat.reduceBNe, Nat.reduceMod, Nat.reduceDiv, Int.reduceLE, Int.reduceLT, Int.reduceToNat, Int.reduceAdd, Int.reduceSub, Int.reduceMul, Int.reduceNeg, Int.reduceEq, Int.reduceBEq, Int.reduceBNe, ↓reduceIte, reduceCtorEq, String.reduceBNe, String.reduceEq, reduceDIte, Nat.reducePow]
  refine Thn_n ?_
  refine hK _ _ ?_
  clear hK K
  refine AW.seq_k fun K hK => ?_
  refine AW.seq_k fun K hK => ?_
  refine AW.region (by decide) ?_
  simp only [push_cast, Nat.reduceAdd, Nat.reduceMul, Nat.reduceSub, Nat.reduceLeDiff, Nat.reduceLT, Nat.reduceEqDiff, Nat.reduceBEq, Nat.reduceBNe, Nat.reduceMod, Nat.reduceDiv, Int.reduceLE, Int.reduceLT, Int.reduceToNat, Int.reduceAdd, Int.reduceSub, Int.reduceMul, Int.reduceNeg, Int.reduceEq, Int.reduceBEq, Int.reduceBNe, ↓reduceIte, reduceCtorEq, String.reduceBNe, String.reduceEq, reduceDIte, Nat.reducePow]
  refine Thn_n ?_
  refine hK _ _ ?_
  clear hK K
  refine AW.cond rfl (fun h4 => ?_) (fun h4 => ?_)
  · have hr : ofI a = 2147483648 := by have := of_decide_eq_true h4; unfold ofI; rw [if_pos this]
    refine AW.seq_k fun K hK => ?_
    refine AW.region (by decide) ?_
    simp only [push_cast, Nat.reduceAdd, Nat.reduceMul, Nat.reduceSub, Nat.reduceLeDiff, Nat.reduceLT, Nat.reduceEqDiff, Nat.reduceBEq, Nat.reduceBNe, Nat.reduceMod, Nat.reduceDiv, Int.reduceLE, Int.reduceLT, Int.reduceToNat, Int.reduceAdd, Int.reduceSub, Int.reduceMul, Int.reduceNeg, Int.reduceEq, Int.reduceBEq, Int.reduceBNe, ↓reduceIte, reduceCtorEq, String.reduceBNe, String.reduceEq, reduceDIte, Nat.reducePow]
    refine Thn_n ?_
    refine hK _ _ ?_
    clear hK K
    refine AW.ret ?_
    refine Thn_r ?_
    refine hQ _ _ _ ?_
    first | refine RetP.drop0 (Or.inr rfl) ?_ ?_ hwf | refine RetP.drop (Or.inr rfl) ?_ ?_ hwf
    · simp only [resA, resOne, resTv, AV.tv, push_cast, Nat.reduceAdd, Nat.reduceMul, Nat.reduceSub, Nat.reduceLeDiff, Nat.reduceLT, Nat.reduceEqDiff, Nat.reduceBEq, Nat.reduceBNe, Nat.reduceMod, Nat.reduceDiv, Int.reduceLE, Int.reduceLT, Int.reduceToNat, Int.reduceAdd, Int.reduceSub, Int.reduceMul, Int.reduceNeg, Int.reduceEq, Int.reduceBEq, Int.reduceBNe, ↓reduceIte, reduceCtorEq, String.reduceBNe, String.reduceEq, reduceDIte, Nat.reducePow, hr]
    · rfl
  · refine AW.skip ?_
    refine Thn_n ?_
    refine hK _ _ ?_
    clear hK K
    refine AW.seq_k fun K hK => ?_
    refine AW.seq_k fun K hK => ?_
    refine AW.region (by decide) ?_
    simp only [push_cast, Nat.reduceAdd, Nat.reduceMul, Nat.reduceSub, Nat.reduceLeDiff, Nat.reduceLT, Nat.reduceEqDiff, Nat.reduceBEq, Nat.reduceBNe, Nat.reduceMod, Nat.reduceDiv, Int.reduceLE, Int.reduceLT, Int.reduceToNat, Int.reduceAdd, Int.reduceSub, Int.reduceMul, Int.reduceNeg, Int.reduceEq, Int.reduceBEq, Int.reduceBNe, ↓reduceIte, reduceCtorEq, String.reduceBNe, String.reduceEq, reduceDIte, Nat.reducePow]
    refine Thn_n ?_
    refine hK _ _ ?_
    clear hK K
    refine AW.cond rfl (fun h6 => ?_) (fun h6 => ?_)
    · have hr : ofI a = -2147483648 := by have h0 := of_decide_eq_false h4; have := of_decide_eq_true h6; unfold ofI; rw [if_neg h0, if_pos this]
      refine AW.seq_k fun K hK => ?_
      refine AW.region (by decide) ?_
      simp only [push_cast, Nat.reduceAdd, Nat.reduceMul, Nat.reduceSub, Nat.reduceLeDiff, Nat.reduceLT, Nat.reduceEqDiff, Nat.reduceBEq, Nat.reduceBNe, Nat.reduceMod, Nat.reduceDiv, Int.reduceLE, Int.reduceLT, Int.reduceToNat, Int.reduceAdd, Int.reduceSub, Int.reduceMul, Int.reduceNeg, Int.reduceEq, Int.reduceBEq, Int.reduceBNe, ↓reduceIte, reduceCtorEq, String.reduceBNe, String.reduceEq, reduceDIte, Nat.reducePow]
      refine Thn_n ?_
      refine hK _ _ ?_
      clear hK K
      refine AW.ret ?_
      refine Thn_r ?_
      refine hQ _ _ _ ?_
      first | refine RetP.drop0 (Or.inr rfl) ?_ ?_ hwf | refine RetP.drop (Or.inr rfl) ?_ ?_ hwf
      · simp only [resA, resOne, resTv, AV.tv, push_cast, Nat.reduceAdd, Nat.reduceMul, Nat.reduceSub, Nat.reduceLeDiff, Nat.reduceLT, Nat.reduceEqDiff, Nat.reduceBEq, Nat.reduceBNe, Nat.reduceMod, Nat.reduceDiv, Int.reduceLE, Int.reduceLT, Int.reduceToNat, Int.reduceAdd, Int.reduceSub, Int.reduceMul, Int.reduceNeg, Int.reduceEq, Int.reduceBEq, Int.reduceBNe, ↓reduceIte, reduceCtorEq, String.reduceBNe, String.reduceEq, reduceDIte, Nat.reducePow, hr]
      · rfl
    · have h0 := of_decide_eq_false h4
      have h9 := of_decide_eq_false h6
      have hr : ofI a = a * 65536 := by unfold ofI; rw [if_neg h0, if_neg h9]
      have hw1 : IntKind.i64.wrap a = a := wi (by omega)
      have hw2 : IntKind.i64.wrap (a * 65536) = a * 65536 := wi (by omega)
      refine AW.skip ?_
      refine Thn_n ?_
      refine hK _ _ ?_
      clear hK K
      refine AW.seq_k fun K hK => ?_
      refine AW.region (by decide) ?_
      simp only [push_cast, Nat.reduceAdd, Nat.reduceMul, Nat.reduceSub, Nat.reduceLeDiff, Nat.reduceLT, Nat.reduceEqDiff, Nat.reduceBEq, Nat.reduceBNe, Nat.reduceMod, Nat.reduceDiv, Int.reduceLE, Int.reduceLT, Int.reduceToNat, Int.reduceAdd, Int.reduceSub, Int.reduceMul, Int.reduceNeg, Int.reduceEq, Int.reduceBEq, Int.reduceBNe, ↓reduceIte, reduceCtorEq, String.reduceBNe, String.reduceEq, reduceDIte, Nat.reducePow, hw1, hw2]
      refine Thn_n ?_
      refine hK _ _ ?_
      clear hK K
      refine AW.ret ?_
      refine hQ _ _ _ ?_
      first | refine RetP.drop0 (Or.inr rfl) ?_ ?_ hwf | refine RetP.drop (Or.inr rfl) ?_ ?_ hwf
      · simp only [resA, resOne, resTv, AV.tv, push_cast, Nat.reduceAdd, Nat.reduceMul, Nat.reduceSub, Nat.reduceLeDiff, Nat.reduceLT, Nat.reduceEqDiff, Nat.reduceBEq, Nat.reduceBNe, Nat.reduceMod, Nat.reduceDiv, Int.reduceLE, Int.reduceLT, Int.reduceToNat, Int.reduceAdd, Int.reduceSub, Int.reduceMul, Int.reduceNeg, Int.reduceEq, Int.reduceBEq, Int.reduceBNe, ↓reduceIte, reduceCtorEq, String.reduceBNe, String.reduceEq, reduceDIte, Nat.reducePow, hw1, hw2, hr]
      · rfl
theorem pow16 : (2 : Int) ^ min 16 IntKind.i64.bits = 65536 := by decide
theorem shr16 (x : Int) : x.fdiv 65536 = x / 65536 := Int.fdiv_eq_ediv_of_nonneg _ (by decide)
theorem mul_c (a b : Int) (m : AMem) : Ctr Tryd.prog 11 [.one (.int .i64 a), .one (.int .i64 b)] m (.one (.int .i64 (mulI a b))) m := by
  refine Ctr.enter Tryd.func11 rfl (by decide) (rs := [.tmp 4]) (nt := 12) rfl rfl fun hwf Q hQ => ?_
  have ha := held_b a
  have hb := held_b b
  have hm := held_mul a b
  have hq := ediv_b (n := heldI a * heldI b) (d := 65536) (A := 4611686018427387904) (by decide) (by omega)
  have hw : IntKind.i64.wrap (heldI a * heldI b) = heldI a * heldI b := wi (by omega)
  have hw2 : IntKind.i64.wrap (heldI a * heldI b / 65536) = heldI a * heldI b / 65536 := wi (by omega)
  
  refine AW.seq_k fun K hK => ?_
  refine AW.region (by decide) ?_
  simp only [push_cast, Nat.reduceAdd, Nat.reduceMul, Nat.reduceSub, Nat.reduceLeDiff, Nat.reduceLT, Nat.reduceEqDiff, Nat.reduceBEq, Nat.reduceBNe, Nat.reduceMod, Nat.reduceDiv, Int.reduceLE, Int.reduceLT, Int.reduceToNat, Int.reduceAdd, Int.reduceSub, Int.reduceMul, Int.reduceNeg, Int.reduceEq, Int.reduceBEq, Int.reduceBNe, ↓reduceIte, reduceCtorEq, String.reduceBNe, String.reduceEq, reduceDIte, Nat.reducePow, hw, hw2, pow16, shr16]
  refine Thn_n ?_
  refine hK _ _ ?_
  clear hK K
  refine AW.seq_k fun K hK => ?_
  refine AW.region (by decide) ?_
  iterate 2
    simp only [push_cast, Nat.reduceAdd, Nat.reduceMul, Nat.reduceSub, Nat.reduceLeDiff, Nat.reduceLT, Nat.reduceEqDiff, Nat.reduceBEq, Nat.reduceBNe, Nat.reduceMod, Nat.reduceDiv, Int.reduceLE, Int.reduceLT, Int.reduceToNat, Int.reduceAdd, Int.reduceSub, Int.reduceMul, Int.reduceNeg, Int.reduceEq, Int.reduceBEq, Int.reduceBNe, ↓reduceIte, reduceCtorEq, String.reduceBNe, String.reduceEq, reduceDIte, Nat.reducePow, hw, hw2, pow16, shr16]
    refine CThen.by (in_c _ _) ?_
  simp only [push_cast, Nat.reduceAdd, Nat.reduceMul, Nat.reduceSub, Nat.reduceLeDiff, Nat.reduceLT, Nat.reduceEqDiff, Nat.reduceBEq, Nat.reduceBNe, Nat.reduceMod, Nat.reduceDiv, Int.reduceLE, Int.reduceLT, Int.reduceToNat, Int.reduceAdd, Int.reduceSub, Int.reduceMul, Int.reduceNeg, Int.reduceEq, Int.reduceBEq, Int.reduceBNe, ↓reduceIte, reduceCtorEq, String.reduceBNe, String.reduceEq, reduceDIte, Nat.reducePow, hw, hw2, pow16, shr16]
  refine CThen.by (clamp_c _ _) ?_
  simp only [push_cast, Nat.reduceAdd, Nat.reduceMul, Nat.reduceSub, Nat.reduceLeDiff, Nat.reduceLT, Nat.reduceEqDiff, Nat.reduceBEq, Nat.reduceBNe, Nat.reduceMod, Nat.reduceDiv, Int.reduceLE, Int.reduceLT, Int.reduceToNat, Int.reduceAdd, Int.reduceSub, Int.reduceMul, Int.reduceNeg, Int.reduceEq, Int.reduceBEq, Int.reduceBNe, ↓reduceIte, reduceCtorEq, String.reduceBNe, String.reduceEq, reduceDIte, Nat.reducePow, hw, hw2, pow16, shr16]
  refine Thn_n ?_
  refine hK _ _ ?_
  clear hK K
  refine AW.ret ?_
  refine hQ _ _ _ ?_
  first | refine RetP.drop0 (Or.inr rfl) ?_ ?_ hwf | refine RetP.drop (Or.inr rfl) ?_ ?_ hwf
  · simp only [resA, resOne, resTv, AV.tv, push_cast, Nat.reduceAdd, Nat.reduceMul, Nat.reduceSub, Nat.reduceLeDiff, Nat.reduceLT, Nat.reduceEqDiff, Nat.reduceBEq, Nat.reduceBNe, Nat.reduceMod, Nat.reduceDiv, Int.reduceLE, Int.reduceLT, Int.reduceToNat, Int.reduceAdd, Int.reduceSub, Int.reduceMul, Int.reduceNeg, Int.reduceEq, Int.reduceBEq, Int.reduceBNe, ↓reduceIte, reduceCtorEq, String.reduceBNe, String.reduceEq, reduceDIte, Nat.reducePow, hw, hw2, pow16, shr16, mulI]
  · rfl
theorem rmul_c (a b : Int) (m : AMem) : Ctr Tryd.prog 12 [.one (.int .i64 a), .one (.int .i64 b)] m (.one (.int .i64 (mulI a b))) m := by
  refine Ctr.enter Tryd.func12 rfl (by decide) (rs := [.tmp 4]) (nt := 12) rfl rfl fun hwf Q hQ => ?_
  have ha := held_b a
  have hb := held_b b
  have hm := held_mul a b
  have hq := ediv_b (n := heldI a * heldI b) (d := 65536) (A := 4611686018427387904) (by decide) (by omega)
  have hw : IntKind.i64.wrap (heldI a * heldI b) = heldI a * heldI b := wi (by omega)
  have hw2 : IntKind.i64.wrap (heldI a * heldI b / 65536) = heldI a * heldI b / 65536 := wi (by omega)
  
  refine AW.seq_k fun K hK => ?_
  refine AW.region (by decide) ?_
  simp only [push_cast, Nat.reduceAdd, Nat.reduceMul, Nat.reduceSub, Nat.reduceLeDiff, Nat.reduceLT, Nat.reduceEqDiff, Nat.reduceBEq, Nat.reduceBNe, Nat.reduceMod, Nat.reduceDiv, Int.reduceLE, Int.reduceLT, Int.reduceToNat, Int.reduceAdd, Int.reduceSub, Int.reduceMul, Int.reduceNeg, Int.reduceEq, Int.reduceBEq, Int.reduceBNe, ↓reduceIte, reduceCtorEq, String.reduceBNe, String.reduceEq, reduceDIte, Nat.reducePow, hw, hw2]
  refine Thn_n ?_
  refine hK _ _ ?_
  clear hK K
  refine AW.seq_k fun K hK => ?_
  refine AW.region (by decide) ?_
  iterate 2
    simp only [push_cast, Nat.reduceAdd, Nat.reduceMul, Nat.reduceSub, Nat.reduceLeDiff, Nat.reduceLT, Nat.reduceEqDiff, Nat.reduceBEq, Nat.reduceBNe, Nat.reduceMod, Nat.reduceDiv, Int.reduceLE, Int.reduceLT, Int.reduceToNat, Int.reduceAdd, Int.reduceSub, Int.reduceMul, Int.reduceNeg, Int.reduceEq, Int.reduceBEq, Int.reduceBNe, ↓reduceIte, reduceCtorEq, String.reduceBNe, String.reduceEq, reduceDIte, Nat.reducePow, hw, hw2]
    refine CThen.by (held_c _ _) ?_
  simp only [push_cast, Nat.reduceAdd, Nat.reduceMul, Nat.reduceSub, Nat.reduceLeDiff, Nat.reduceLT, Nat.reduceEqDiff, Nat.reduceBEq, Nat.reduceBNe, Nat.reduceMod, Nat.reduceDiv, Int.reduceLE, Int.reduceLT, Int.reduceToNat, Int.reduceAdd, Int.reduceSub, Int.reduceMul, Int.reduceNeg, Int.reduceEq, Int.reduceBEq, Int.reduceBNe, ↓reduceIte, reduceCtorEq, String.reduceBNe, String.reduceEq, reduceDIte, Nat.reducePow, hw, hw2]
  refine CThen.by (down_c (heldI a * heldI b) 65536 _ (by decide) (by omega) (by decide)) ?_
  simp only [push_cast, Nat.reduceAdd, Nat.reduceMul, Nat.reduceSub, Nat.reduceLeDiff, Nat.reduceLT, Nat.reduceEqDiff, Nat.reduceBEq, Nat.reduceBNe, Nat.reduceMod, Nat.reduceDiv, Int.reduceLE, Int.reduceLT, Int.reduceToNat, Int.reduceAdd, Int.reduceSub, Int.reduceMul, Int.reduceNeg, Int.reduceEq, Int.reduceBEq, Int.reduceBNe, ↓reduceIte, reduceCtorEq, String.reduceBNe, String.reduceEq, reduceDIte, Nat.reducePow, hw, hw2]
  refine CThen.by (held_c _ _) ?_
  simp only [push_cast, Nat.reduceAdd, Nat.reduceMul, Nat.reduceSub, Nat.reduceLeDiff, Nat.reduceLT, Nat.reduceEqDiff, Nat.reduceBEq, Nat.reduceBNe, Nat.reduceMod, Nat.reduceDiv, Int.reduceLE, Int.reduceLT, Int.reduceToNat, Int.reduceAdd, Int.reduceSub, Int.reduceMul, Int.reduceNeg, Int.reduceEq, Int.reduceBEq, Int.reduceBNe, ↓reduceIte, reduceCtorEq, String.reduceBNe, String.reduceEq, reduceDIte, Nat.reducePow, hw, hw2]
  refine Thn_n ?_
  refine hK _ _ ?_
  clear hK K
  refine AW.ret ?_
  refine hQ _ _ _ ?_
  first | refine RetP.drop0 (Or.inr rfl) ?_ ?_ hwf | refine RetP.drop (Or.inr rfl) ?_ ?_ hwf
  · simp only [resA, resOne, resTv, AV.tv, push_cast, Nat.reduceAdd, Nat.reduceMul, Nat.reduceSub, Nat.reduceLeDiff, Nat.reduceLT, Nat.reduceEqDiff, Nat.reduceBEq, Nat.reduceBNe, Nat.reduceMod, Nat.reduceDiv, Int.reduceLE, Int.reduceLT, Int.reduceToNat, Int.reduceAdd, Int.reduceSub, Int.reduceMul, Int.reduceNeg, Int.reduceEq, Int.reduceBEq, Int.reduceBNe, ↓reduceIte, reduceCtorEq, String.reduceBNe, String.reduceEq, reduceDIte, Nat.reducePow, hw, hw2, mulI]
  · rfl
theorem div_c (a b : Int) (m : AMem) : Ctr Tryd.prog 13 [.one (.int .i64 a), .one (.int .i64 b)] m (.one (.int .i64 (divI a b))) m := by
  refine Ctr.enter Tryd.func13 rfl (by decide) (rs := [.tmp 4]) (nt := 25) rfl rfl fun hwf Q hQ => ?_
  have ha := held_b a
  have hb := held_b b
  have hs : IntKind.i64.wrap (heldI a * 65536) = heldI a * 65536 := wi (by omega)
  
  refine AW.seq_k fun K hK => ?_
  refine AW.region (by decide) ?_
  simp only [push_cast, Nat.reduceAdd, Nat.reduceMul, Nat.reduceSub, Nat.reduceLeDiff, Nat.reduceLT, Nat.reduceEqDiff, Nat.reduceBEq, Nat.reduceBNe, Nat.reduceMod, Nat.reduceDiv, Int.reduceLE, Int.reduceLT, Int.reduceToNat, Int.reduceAdd, Int.reduceSub, Int.reduceMul, Int.reduceNeg, Int.reduceEq, Int.reduceBEq, Int.reduceBNe, ↓reduceIte, reduceCtorEq, String.reduceBNe, String.reduceEq, reduceDIte, Nat.reducePow, pow16, hs]
  refine Thn_n ?_
  refine hK _ _ ?_
  clear hK K
  refine AW.seq_k fun K hK => ?_
  refine AW.region (by decide) ?_
  iterate 2
    simp only [push_cast, Nat.reduceAdd, Nat.reduceMul, Nat.reduceSub, Nat.reduceLeDiff, Nat.reduceLT, Nat.reduceEqDiff, Nat.reduceBEq, Nat.reduceBNe, Nat.reduceMod, Nat.reduceDiv, Int.reduceLE, Int.reduceLT, Int.reduceToNat, Int.reduceAdd, Int.reduceSub, Int.reduceMul, Int.reduceNeg, Int.reduceEq, Int.reduceBEq, Int.reduceBNe, ↓reduceIte, reduceCtorEq, String.reduceBNe, String.reduceEq, reduceDIte, Nat.reducePow, pow16, hs]
    refine CThen.by (in_c _ _) ?_
  simp only [push_cast, Nat.reduceAdd, Nat.reduceMul, Nat.reduceSub, Nat.reduceLeDiff, Nat.reduceLT, Nat.reduceEqDiff, Nat.reduceBEq, Nat.reduceBNe, Nat.reduceMod, Nat.reduceDiv, Int.reduceLE, Int.reduceLT, Int.reduceToNat, Int.reduceAdd, Int.reduceSub, Int.reduceMul, Int.reduceNeg, Int.reduceEq, Int.reduceBEq, Int.reduceBNe, ↓reduceIte, reduceCtorEq, String.reduceBNe, String.reduceEq, reduceDIte, Nat.reducePow, pow16, hs]
  refine Thn_n ?_
  refine hK _ _ ?_
  clear hK K
  refine AW.seq_k fun K hK => ?_
  refine AW.block ?_
  refine AW.seq_k fun K hK => ?_
  refine AW.region (by decide) ?_
  simp only [push_cast, Nat.reduceAdd, Nat.reduceMul, Nat.reduceSub, Nat.reduceLeDiff, Nat.reduceLT, Nat.reduceEqDiff, Nat.reduceBEq, Nat.reduceBNe, Nat.reduceMod, Nat.reduceDiv, Int.reduceLE, Int.reduceLT, Int.reduceToNat, Int.reduceAdd, Int.reduceSub, Int.reduceMul, Int.reduceNeg, Int.reduceEq, Int.reduceBEq, Int.reduceBNe, ↓reduceIte, reduceCtorEq, String.reduceBNe, String.reduceEq, reduceDIte, Nat.reducePow, pow16, hs]
  refine Thn_n ?_
  refine hK _ _ ?_
  clear hK K
  refine AW.cond rfl (fun h11 => ?_) (fun h11 => ?_)
  · have hd : heldI b ≠ 0 := by simpa using h11
    have hr : divI a b = heldI (floorI (heldI a * 65536) (heldI b)) := by unfold divI; rw [if_neg hd]
    refine AW.seq_k fun K hK => ?_
    refine AW.region (by decide) ?_
    simp only [push_cast, Nat.reduceAdd, Nat.reduceMul, Nat.reduceSub, Nat.reduceLeDiff, Nat.reduceLT, Nat.reduceEqDiff, Nat.reduceBEq, Nat.reduceBNe, Nat.reduceMod, Nat.reduceDiv, Int.reduceLE, Int.reduceLT, Int.reduceToNat, Int.reduceAdd, Int.reduceSub, Int.reduceMul, Int.reduceNeg, Int.reduceEq, Int.reduceBEq, Int.reduceBNe, ↓reduceIte, reduceCtorEq, String.reduceBNe, String.reduceEq, reduceDIte, Nat.reducePow, pow16, hs]
    refine CThen.by (floor_c (heldI a * 65536) (heldI b) _ hd (by omega)) ?_
    simp only [push_cast, Nat.reduceAdd, Nat.reduceMul, Nat.reduceSub, Nat.reduceLeDiff, Nat.reduceLT, Nat.reduceEqDiff, Nat.reduceBEq, Nat.reduceBNe, Nat.reduceMod, Nat.reduceDiv, Int.reduceLE, Int.reduceLT, Int.reduceToNat, Int.reduceAdd, Int.reduceSub, Int.reduceMul, Int.reduceNeg, Int.reduceEq, Int.reduceBEq, Int.reduceBNe, ↓reduceIte, reduceCtorEq, String.reduceBNe, String.reduceEq, reduceDIte, Nat.reducePow, pow16, hs]
    refine CThen.by (clamp_c _ _) ?_
    simp only [push_cast, Nat.reduceAdd, Nat.reduceMul, Nat.reduceSub, Nat.reduceLeDiff, Nat.reduceLT, Nat.reduceEqDiff, Nat.reduceBEq, Nat.reduceBNe, Nat.reduceMod, Nat.reduceDiv, Int.reduceLE, Int.reduceLT, Int.reduceToNat, Int.reduceAdd, Int.reduceSub, Int.reduceMul, Int.reduceNeg, Int.reduceEq, Int.reduceBEq, Int.reduceBNe, ↓reduceIte, reduceCtorEq, String.reduceBNe, String.reduceEq, reduceDIte, Nat.reducePow, pow16, hs]
    refine Thn_n ?_
    refine hK _ _ ?_
    clear hK K
    refine AW.ret ?_
    refine InB_r ?_
    refine Thn_r ?_
    refine hQ _ _ _ ?_
    first | refine RetP.drop0 (Or.inr rfl) ?_ ?_ hwf | refine RetP.drop (Or.inr rfl) ?_ ?_ hwf
    · simp only [resA, resOne, resTv, AV.tv, push_cast, Nat.reduceAdd, Nat.reduceMul, Nat.reduceSub, Nat.reduceLeDiff, Nat.reduceLT, Nat.reduceEqDiff, Nat.reduceBEq, Nat.reduceBNe, Nat.reduceMod, Nat.reduceDiv, Int.reduceLE, Int.reduceLT, Int.reduceToNat, Int.reduceAdd, Int.reduceSub, Int.reduceMul, Int.reduceNeg, Int.reduceEq, Int.reduceBEq, Int.reduceBNe, ↓reduceIte, reduceCtorEq, String.reduceBNe, String.reduceEq, reduceDIte, Nat.reducePow, pow16, hs, hr]
    · rfl
  · refine AW.seq_k fun K hK => ?_
    refine AW.region (by decide) ?_
    simp only [push_cast, Nat.reduceAdd, Nat.reduceMul, Nat.reduceSub, Nat.reduceLeDiff, Nat.reduceLT, Nat.reduceEqDiff, Nat.reduceBEq, Nat.reduceBNe, Nat.reduceMod, Nat.reduceDiv, Int.reduceLE, Int.reduceLT, Int.reduceToNat, Int.reduceAdd, Int.reduceSub, Int.reduceMul, Int.reduceNeg, Int.reduceEq, Int.reduceBEq, Int.reduceBNe, ↓reduceIte, reduceCtorEq, String.reduceBNe, String.reduceEq, reduceDIte, Nat.reducePow, pow16, hs]
    refine Thn_n ?_
    refine hK _ _ ?_
    clear hK K
    refine AW.cond rfl (fun h19 => ?_) (fun h19 => ?_)
    · have hd : heldI b = 0 := by simpa using h11
      have hr : divI a b = 2147483648 := by have := of_decide_eq_true h19; unfold divI; rw [if_pos hd, if_pos this]
      refine AW.seq_k fun K hK => ?_
      refine AW.region (by decide) ?_
      simp only [push_cast, Nat.reduceAdd, Nat.reduceMul, Nat.reduceSub, Nat.reduceLeDiff, Nat.reduceLT, Nat.reduceEqDiff, Nat.reduceBEq, Nat.reduceBNe, Nat.reduceMod, Nat.reduceDiv, Int.reduceLE, Int.reduceLT, Int.reduceToNat, Int.reduceAdd, Int.reduceSub, Int.reduceMul, Int.reduceNeg, Int.reduceEq, Int.reduceBEq, Int.reduceBNe, ↓reduceIte, reduceCtorEq, String.reduceBNe, String.reduceEq, reduceDIte, Nat.reducePow, pow16, hs]
      refine Thn_n ?_
      refine hK _ _ ?_
      clear hK K
      refine AW.ret ?_
      refine InB_r ?_
      refine Thn_r ?_
      refine hQ _ _ _ ?_
      first | refine RetP.drop0 (Or.inr rfl) ?_ ?_ hwf | refine RetP.drop (Or.inr rfl) ?_ ?_ hwf
      · simp only [resA, resOne, resTv, AV.tv, push_cast, Nat.reduceAdd, Nat.reduceMul, Nat.reduceSub, Nat.reduceLeDiff, Nat.reduceLT, Nat.reduceEqDiff, Nat.reduceBEq, Nat.reduceBNe, Nat.reduceMod, Nat.reduceDiv, Int.reduceLE, Int.reduceLT, Int.reduceToNat, Int.reduceAdd, Int.reduceSub, Int.reduceMul, Int.reduceNeg, Int.reduceEq, Int.reduceBEq, Int.reduceBNe, ↓reduceIte, reduceCtorEq, String.reduceBNe, String.reduceEq, reduceDIte, Nat.reducePow, pow16, hs, hr]
      · rfl
    · refine AW.seq_k fun K hK => ?_
      refine AW.region (by decide) ?_
      simp only [push_cast, Nat.reduceAdd, Nat.reduceMul, Nat.reduceSub, Nat.reduceLeDiff, Nat.reduceLT, Nat.reduceEqDiff, Nat.reduceBEq, Nat.reduceBNe, Nat.reduceMod, Nat.reduceDiv, Int.reduceLE, Int.reduceLT, Int.reduceToNat, Int.reduceAdd, Int.reduceSub, Int.reduceMul, Int.reduceNeg, Int.reduceEq, Int.reduceBEq, Int.reduceBNe, ↓reduceIte, reduceCtorEq, String.reduceBNe, String.reduceEq, reduceDIte, Nat.reducePow, pow16, hs]
      refine Thn_n ?_
      refine hK _ _ ?_
      clear hK K
      refine AW.cond rfl (fun h22 => ?_) (fun h22 => ?_)
      · have hd : heldI b = 0 := by simpa using h11
        have hr : divI a b = -2147483648 := by have h0 := of_decide_eq_false h19; have := of_decide_eq_true h22; unfold divI; rw [if_pos hd, if_neg h0, if_pos this]
        refine AW.seq_k fun K hK => ?_
        refine AW.region (by decide) ?_
        simp only [push_cast, Nat.reduceAdd, Nat.reduceMul, Nat.reduceSub, Nat.reduceLeDiff, Nat.reduceLT, Nat.reduceEqDiff, Nat.reduceBEq, Nat.reduceBNe, Nat.reduceMod, Nat.reduceDiv, Int.reduceLE, Int.reduceLT, Int.reduceToNat, Int.reduceAdd, Int.reduceSub, Int.reduceMul, Int.reduceNeg, Int.reduceEq, Int.reduceBEq, Int.reduceBNe, ↓reduceIte, reduceCtorEq, String.reduceBNe, String.reduceEq, reduceDIte, Nat.reducePow, pow16, hs]
        refine Thn_n ?_
        refine hK _ _ ?_
        clear hK K
        refine AW.ret ?_
        refine InB_r ?_
        refine Thn_r ?_
        refine hQ _ _ _ ?_
        first | refine RetP.drop0 (Or.inr rfl) ?_ ?_ hwf | refine RetP.drop (Or.inr rfl) ?_ ?_ hwf
        · simp only [resA, resOne, resTv, AV.tv, push_cast, Nat.reduceAdd, Nat.reduceMul, Nat.reduceSub, Nat.reduceLeDiff, Nat.reduceLT, Nat.reduceEqDiff, Nat.reduceBEq, Nat.reduceBNe, Nat.reduceMod, Nat.reduceDiv, Int.reduceLE, Int.reduceLT, Int.reduceToNat, Int.reduceAdd, Int.reduceSub, Int.reduceMul, Int.reduceNeg, Int.reduceEq, Int.reduceBEq, Int.reduceBNe, ↓reduceIte, reduceCtorEq, String.reduceBNe, String.reduceEq, reduceDIte, Nat.reducePow, pow16, hs, hr]
        · rfl
      · have hd : heldI b = 0 := by simpa using h11
        have hr : divI a b = 0 := by have h0 := of_decide_eq_false h19; have := of_decide_eq_false h22; unfold divI; rw [if_pos hd, if_neg h0, if_neg this]
        refine AW.skip ?_
        refine InB_n ?_
        refine Thn_n ?_
        refine hK _ _ ?_
        clear hK K
        refine AW.seq_k fun K hK => ?_
        refine AW.region (by decide) ?_
        simp only [push_cast, Nat.reduceAdd, Nat.reduceMul, Nat.reduceSub, Nat.reduceLeDiff, Nat.reduceLT, Nat.reduceEqDiff, Nat.reduceBEq, Nat.reduceBNe, Nat.reduceMod, Nat.reduceDiv, Int.reduceLE, Int.reduceLT, Int.reduceToNat, Int.reduceAdd, Int.reduceSub, Int.reduceMul, Int.reduceNeg, Int.reduceEq, Int.reduceBEq, Int.reduceBNe, ↓reduceIte, reduceCtorEq, String.reduceBNe, String.reduceEq, reduceDIte, Nat.reducePow, pow16, hs]
        refine Thn_n ?_
        refine hK _ _ ?_
        clear hK K
        refine AW.ret ?_
        refine hQ _ _ _ ?_
        first | refine RetP.drop0 (Or.inr rfl) ?_ ?_ hwf | refine RetP.drop (Or.inr rfl) ?_ ?_ hwf
        · simp only [resA, resOne, resTv, AV.tv, push_cast, Nat.reduceAdd, Nat.reduceMul, Nat.reduceSub, Nat.reduceLeDiff, Nat.reduceLT, Nat.reduceEqDiff, Nat.reduceBEq, Nat.reduceBNe, Nat.reduceMod, Nat.reduceDiv, Int.reduceLE, Int.reduceLT, Int.reduceToNat, Int.reduceAdd, Int.reduceSub, Int.reduceMul, Int.reduceNeg, Int.reduceEq, Int.reduceBEq, Int.reduceBNe, ↓reduceIte, reduceCtorEq, String.reduceBNe, String.reduceEq, reduceDIte, Nat.reducePow, pow16, hs, hr]
        · rfl
theorem rdiv_c (a b : Int) (m : AMem) : Ctr Tryd.prog 14 [.one (.int .i64 a), .one (.int .i64 b)] m (.one (.int .i64 (divI a b))) m := by
  refine Ctr.enter Tryd.func14 rfl (by decide) (rs := [.tmp 4]) (nt := 29) rfl rfl fun hwf Q hQ => ?_
  have ha := held_b a
  have hb := held_b b
  have hs : IntKind.i64.wrap (heldI a * 65536) = heldI a * 65536 := wi (by omega)
  have hn1 : IntKind.i64.wrap (-heldI a) = -heldI a := wi (by omega)
  have hn2 : IntKind.i64.wrap (-heldI b) = -heldI b := wi (by omega)
  have hn3 : IntKind.i64.wrap (-heldI a * 65536) = -heldI a * 65536 := wi (by omega)
  
  refine AW.seq_k fun K hK => ?_
  refine AW.region (by decide) ?_
  iterate 2
    simp only [push_cast, Nat.reduceAdd, Nat.reduceMul, Nat.reduceSub, Nat.reduceLeDiff, Nat.reduceLT, Nat.reduceEqDiff, Nat.reduceBEq, Nat.reduceBNe, Nat.reduceMod, Nat.reduceDiv, Int.reduceLE, Int.reduceLT, Int.reduceToNat, Int.reduceAdd, Int.reduceSub, Int.reduceMul, Int.reduceNeg, Int.reduceEq, Int.reduceBEq, Int.reduceBNe, ↓reduceIte, reduceCtorEq, String.reduceBNe, String.reduceEq, reduceDIte, Nat.reducePow, Int.zero_sub, hs, hn1, hn2, hn3]
    refine Thn_n ?_
    refine hK _ _ ?_
    clear hK K
    refine AW.seq_k fun K hK => ?_
    refine AW.region (by decide) ?_
    simp only [push_cast, Nat.reduceAdd, Nat.reduceMul, Nat.reduceSub, Nat.reduceLeDiff, Nat.reduceLT, Nat.reduceEqDiff, Nat.reduceBEq, Nat.reduceBNe, Nat.reduceMod, Nat.reduceDiv, Int.reduceLE, Int.reduceLT, Int.reduceToNat, Int.reduceAdd, Int.reduceSub, Int.reduceMul, Int.reduceNeg, Int.reduceEq, Int.reduceBEq, Int.reduceBNe, ↓reduceIte, reduceCtorEq, String.reduceBNe, String.reduceEq, reduceDIte, Nat.reducePow, Int.zero_sub, hs, hn1, hn2, hn3]
    refine CThen.by (held_c _ _) ?_
  simp only [push_cast, Nat.reduceAdd, Nat.reduceMul, Nat.reduceSub, Nat.reduceLeDiff, Nat.reduceLT, Nat.reduceEqDiff, Nat.reduceBEq, Nat.reduceBNe, Nat.reduceMod, Nat.reduceDiv, Int.reduceLE, Int.reduceLT, Int.reduceToNat, Int.reduceAdd, Int.reduceSub, Int.reduceMul, Int.reduceNeg, Int.reduceEq, Int.reduceBEq, Int.reduceBNe, ↓reduceIte, reduceCtorEq, String.reduceBNe, String.reduceEq, reduceDIte, Nat.reducePow, Int.zero_sub, hs, hn1, hn2, hn3]
  refine Thn_n ?_
  refine hK _ _ ?_
  clear hK K
  refine AW.seq_k fun K hK => ?_
  refine AW.seq_k fun K hK => ?_
  refine AW.region (by decide) ?_
  simp only [push_cast, Nat.reduceAdd, Nat.reduceMul, Nat.reduceSub, Nat.reduceLeDiff, Nat.reduceLT, Nat.reduceEqDiff, Nat.reduceBEq, Nat.reduceBNe, Nat.reduceMod, Nat.reduceDiv, Int.reduceLE, Int.reduceLT, Int.reduceToNat, Int.reduceAdd, Int.reduceSub, Int.reduceMul, Int.reduceNeg, Int.reduceEq, Int.reduceBEq, Int.reduceBNe, ↓reduceIte, reduceCtorEq, String.reduceBNe, String.reduceEq, reduceDIte, Nat.reducePow, Int.zero_sub, hs, hn1, hn2, hn3]
  refine Thn_n ?_
  refine hK _ _ ?_
  clear hK K
  refine AW.cond rfl (fun h10 => ?_) (fun h10 => ?_)
  · refine AW.seq_k fun K hK => ?_
    refine AW.seq_k fun K hK => ?_
    refine AW.region (by decide) ?_
    simp only [push_cast, Nat.reduceAdd, Nat.reduceMul, Nat.reduceSub, Nat.reduceLeDiff, Nat.reduceLT, Nat.reduceEqDiff, Nat.reduceBEq, Nat.reduceBNe, Nat.reduceMod, Nat.reduceDiv, Int.reduceLE, Int.reduceLT, Int.reduceToNat, Int.reduceAdd, Int.reduceSub, Int.reduceMul, Int.reduceNeg, Int.reduceEq, Int.reduceBEq, Int.reduceBNe, ↓reduceIte, reduceCtorEq, String.reduceBNe, String.reduceEq, reduceDIte, Nat.reducePow, Int.zero_sub, hs, hn1, hn2, hn3]
    refine Thn_n ?_
    refine hK _ _ ?_
    clear hK K
    refine AW.cond rfl (fun h12 => ?_) (fun h12 => ?_)
    · have hd : heldI b = 0 := by simpa using h10
      have hr : divI a b = 2147483648 := by have := of_decide_eq_true h12; unfold divI; rw [if_pos hd, if_pos this]
      refine AW.seq_k fun K hK => ?_
      refine AW.region (by decide) ?_
      simp only [push_cast, Nat.reduceAdd, Nat.reduceMul, Nat.reduceSub, Nat.reduceLeDiff, Nat.reduceLT, Nat.reduceEqDiff, Nat.reduceBEq, Nat.reduceBNe, Nat.reduceMod, Nat.reduceDiv, Int.reduceLE, Int.reduceLT, Int.reduceToNat, Int.reduceAdd, Int.reduceSub, Int.reduceMul, Int.reduceNeg, Int.reduceEq, Int.reduceBEq, Int.reduceBNe, ↓reduceIte, reduceCtorEq, String.reduceBNe, String.reduceEq, reduceDIte, Nat.reducePow, Int.zero_sub, hs, hn1, hn2, hn3]
      refine Thn_n ?_
      refine hK _ _ ?_
      clear hK K
      refine AW.ret ?_
      refine Thn_r ?_
      refine Thn_r ?_
      refine hQ _ _ _ ?_
      first | refine RetP.drop0 (Or.inr rfl) ?_ ?_ hwf | refine RetP.drop (Or.inr rfl) ?_ ?_ hwf
      · simp only [resA, resOne, resTv, AV.tv, push_cast, Nat.reduceAdd, Nat.reduceMul, Nat.reduceSub, Nat.reduceLeDiff, Nat.reduceLT, Nat.reduceEqDiff, Nat.reduceBEq, Nat.reduceBNe, Nat.reduceMod, Nat.reduceDiv, Int.reduceLE, Int.reduceLT, Int.reduceToNat, Int.reduceAdd, Int.reduceSub, Int.reduceMul, Int.reduceNeg, Int.reduceEq, Int.reduceBEq, Int.reduceBNe, ↓reduceIte, reduceCtorEq, String.reduceBNe, String.reduceEq, reduceDIte, Nat.reducePow, Int.zero_sub, hs, hn1, hn2, hn3, hr]
      · rfl
    · refine AW.skip ?_
      refine Thn_n ?_
      refine hK _ _ ?_
      clear hK K
      refine AW.seq_k fun K hK => ?_
      refine AW.seq_k fun K hK => ?_
      refine AW.region (by decide) ?_
      simp only [push_cast, Nat.reduceAdd, Nat.reduceMul, Nat.reduceSub, Nat.reduceLeDiff, Nat.reduceLT, Nat.reduceEqDiff, Nat.reduceBEq, Nat.reduceBNe, Nat.reduceMod, Nat.reduceDiv, Int.reduceLE, Int.reduceLT, Int.reduceToNat, Int.reduceAdd, Int.reduceSub, Int.reduceMul, Int.reduceNeg, Int.reduceEq, Int.reduceBEq, Int.reduceBNe, ↓reduceIte, reduceCtorEq, String.reduceBNe, String.reduceEq, reduceDIte, Nat.reducePow, Int.zero_sub, hs, hn1, hn2, hn3]
      refine Thn_n ?_
      refine hK _ _ ?_
      clear hK K
      refine AW.cond rfl (fun h14 => ?_) (fun h14 => ?_)
      · have hd : heldI b = 0 := by simpa using h10
        have hr : divI a b = -2147483648 := by have h0 := of_decide_eq_false h12; have := of_decide_eq_true h14; unfold divI; rw [if_pos hd, if_neg h0, if_pos this]
        refine AW.seq_k fun K hK => ?_
        refine AW.region (by decide) ?_
        simp only [push_cast, Nat.reduceAdd, Nat.reduceMul, Nat.reduceSub, Nat.reduceLeDiff, Nat.reduceLT, Nat.reduceEqDiff, Nat.reduceBEq, Nat.reduceBNe, Nat.reduceMod, Nat.reduceDiv, Int.reduceLE, Int.reduceLT, Int.reduceToNat, Int.reduceAdd, Int.reduceSub, Int.reduceMul, Int.reduceNeg, Int.reduceEq, Int.reduceBEq, Int.reduceBNe, ↓reduceIte, reduceCtorEq, String.reduceBNe, String.reduceEq, reduceDIte, Nat.reducePow, Int.zero_sub, hs, hn1, hn2, hn3]
        refine Thn_n ?_
        refine hK _ _ ?_
        clear hK K
        refine AW.ret ?_
        refine Thn_r ?_
        refine Thn_r ?_
        refine hQ _ _ _ ?_
        first | refine RetP.drop0 (Or.inr rfl) ?_ ?_ hwf | refine RetP.drop (Or.inr rfl) ?_ ?_ hwf
        · simp only [resA, resOne, resTv, AV.tv, push_cast, Nat.reduceAdd, Nat.reduceMul, Nat.reduceSub, Nat.reduceLeDiff, Nat.reduceLT, Nat.reduceEqDiff, Nat.reduceBEq, Nat.reduceBNe, Nat.reduceMod, Nat.reduceDiv, Int.reduceLE, Int.reduceLT, Int.reduceToNat, Int.reduceAdd, Int.reduceSub, Int.reduceMul, Int.reduceNeg, Int.reduceEq, Int.reduceBEq, Int.reduceBNe, ↓reduceIte, reduceCtorEq, String.reduceBNe, String.reduceEq, reduceDIte, Nat.reducePow, Int.zero_sub, hs, hn1, hn2, hn3, hr]
        · rfl
      · have hd : heldI b = 0 := by simpa using h10
        have hr : divI a b = 0 := by have h0 := of_decide_eq_false h12; have := of_decide_eq_false h14; unfold divI; rw [if_pos hd, if_neg h0, if_neg this]
        refine AW.skip ?_
        refine Thn_n ?_
        refine hK _ _ ?_
        clear hK K
        refine AW.seq_k fun K hK => ?_
        refine AW.region (by decide) ?_
        simp only [push_cast, Nat.reduceAdd, Nat.reduceMul, Nat.reduceSub, Nat.reduceLeDiff, Nat.reduceLT, Nat.reduceEqDiff, Nat.reduceBEq, Nat.reduceBNe, Nat.reduceMod, Nat.reduceDiv, Int.reduceLE, Int.reduceLT, Int.reduceToNat, Int.reduceAdd, Int.reduceSub, Int.reduceMul, Int.reduceNeg, Int.reduceEq, Int.reduceBEq, Int.reduceBNe, ↓reduceIte, reduceCtorEq, String.reduceBNe, String.reduceEq, reduceDIte, Nat.reducePow, Int.zero_sub, hs, hn1, hn2, hn3]
        refine Thn_n ?_
        refine hK _ _ ?_
        clear hK K
        refine AW.ret ?_
        refine Thn_r ?_
        refine hQ _ _ _ ?_
        first | refine RetP.drop0 (Or.inr rfl) ?_ ?_ hwf | refine RetP.drop (Or.inr rfl) ?_ ?_ hwf
        · simp only [resA, resOne, resTv, AV.tv, push_cast, Nat.reduceAdd, Nat.reduceMul, Nat.reduceSub, Nat.reduceLeDiff, Nat.reduceLT, Nat.reduceEqDiff, Nat.reduceBEq, Nat.reduceBNe, Nat.reduceMod, Nat.reduceDiv, Int.reduceLE, Int.reduceLT, Int.reduceToNat, Int.reduceAdd, Int.reduceSub, Int.reduceMul, Int.reduceNeg, Int.reduceEq, Int.reduceBEq, Int.reduceBNe, ↓reduceIte, reduceCtorEq, String.reduceBNe, String.reduceEq, reduceDIte, Nat.reducePow, Int.zero_sub, hs, hn1, hn2, hn3, hr]
        · rfl
  · refine AW.skip ?_
    refine Thn_n ?_
    refine hK _ _ ?_
    clear hK K
    refine AW.seq_k fun K hK => ?_
    refine AW.seq_k fun K hK => ?_
    refine AW.region (by decide) ?_
    simp only [push_cast, Nat.reduceAdd, Nat.reduceMul, Nat.reduceSub, Nat.reduceLeDiff, Nat.reduceLT, Nat.reduceEqDiff, Nat.reduceBEq, Nat.reduceBNe, Nat.reduceMod, Nat.reduceDiv, Int.reduceLE, Int.reduceLT, Int.reduceToNat, Int.reduceAdd, Int.reduceSub, Int.reduceMul, Int.reduceNeg, Int.reduceEq, Int.reduceBEq, Int.reduceBNe, ↓reduceIte, reduceCtorEq, String.reduceBNe, String.reduceEq, reduceDIte, Nat.reducePow, Int.zero_sub, hs, hn1, hn2, hn3]
    refine Thn_n ?_
    refine hK _ _ ?_
    clear hK K
    refine AW.cond rfl (fun h16 => ?_) (fun h16 => ?_)
    · have hd : heldI b ≠ 0 := by simpa using h10
      have hlt := of_decide_eq_true h16
      have hr : divI a b = heldI (-heldI a * 65536 / -heldI b) := by unfold divI floorI; rw [if_neg hd, if_neg (by omega), show -(heldI a * 65536) = -heldI a * 65536 by omega]
      refine AW.seq_k fun K hK => ?_
      refine AW.region (by decide) ?_
      simp only [push_cast, Nat.reduceAdd, Nat.reduceMul, Nat.reduceSub, Nat.reduceLeDiff, Nat.reduceLT, Nat.reduceEqDiff, Nat.reduceBEq, Nat.reduceBNe, Nat.reduceMod, Nat.reduceDiv, Int.reduceLE, Int.reduceLT, Int.reduceToNat, Int.reduceAdd, Int.reduceSub, Int.reduceMul, Int.reduceNeg, Int.reduceEq, Int.reduceBEq, Int.reduceBNe, ↓reduceIte, reduceCtorEq, String.reduceBNe, String.reduceEq, reduceDIte, Nat.reducePow, Int.zero_sub, hs, hn1, hn2, hn3]
      refine CThen.by (down_c (-heldI a * 65536) (-heldI b) _ (by omega) (by omega) (by omega)) ?_
      simp only [push_cast, Nat.reduceAdd, Nat.reduceMul, Nat.reduceSub, Nat.reduceLeDiff, Nat.reduceLT, Nat.reduceEqDiff, Nat.reduceBEq, Nat.reduceBNe, Nat.reduceMod, Nat.reduceDiv, Int.reduceLE, Int.reduceLT, Int.reduceToNat, Int.reduceAdd, Int.reduceSub, Int.reduceMul, Int.reduceNeg, Int.reduceEq, Int.reduceBEq, Int.reduceBNe, ↓reduceIte, reduceCtorEq, String.reduceBNe, String.reduceEq, reduceDIte, Nat.reducePow, Int.zero_sub, hs, hn1, hn2, hn3]
      refine CThen.by (held_c _ _) ?_
      simp only [push_cast, Nat.reduceAdd, Nat.reduceMul, Nat.reduceSub, Nat.reduceLeDiff, Nat.reduceLT, Nat.reduceEqDiff, Nat.reduceBEq, Nat.reduceBNe, Nat.reduceMod, Nat.reduceDiv, Int.reduceLE, Int.reduceLT, Int.reduceToNat, Int.reduceAdd, Int.reduceSub, Int.reduceMul, Int.reduceNeg, Int.reduceEq, Int.reduceBEq, Int.reduceBNe, ↓reduceIte, reduceCtorEq, String.reduceBNe, String.reduceEq, reduceDIte, Nat.reducePow, Int.zero_sub, hs, hn1, hn2, hn3]
      refine Thn_n ?_
      refine hK _ _ ?_
      clear hK K
      refine AW.ret ?_
      refine Thn_r ?_
      refine hQ _ _ _ ?_
      first | refine RetP.drop0 (Or.inr rfl) ?_ ?_ hwf | refine RetP.drop (Or.inr rfl) ?_ ?_ hwf
      · simp only [resA, resOne, resTv, AV.tv, push_cast, Nat.reduceAdd, Nat.reduceMul, Nat.reduceSub, Nat.reduceLeDiff, Nat.reduceLT, Nat.reduceEqDiff, Nat.reduceBEq, Nat.reduceBNe, Nat.reduceMod, Nat.reduceDiv, Int.reduceLE, Int.reduceLT, Int.reduceToNat, Int.reduceAdd, Int.reduceSub, Int.reduceMul, Int.reduceNeg, Int.reduceEq, Int.reduceBEq, Int.reduceBNe, ↓reduceIte, reduceCtorEq, String.reduceBNe, String.reduceEq, reduceDIte, Nat.reducePow, Int.zero_sub, hs, hn1, hn2, hn3, hr]
      · rfl
    · have hd : heldI b ≠ 0 := by simpa using h10
      have hlt := of_decide_eq_false h16
      have hr : divI a b = heldI (heldI a * 65536 / heldI b) := by unfold divI floorI; rw [if_neg hd, if_pos (by omega)]
      refine AW.skip ?_
      refine Thn_n ?_
      refine hK _ _ ?_
      clear hK K
      refine AW.seq_k fun K hK => ?_
      refine AW.region (by decide) ?_
      simp only [push_cast, Nat.reduceAdd, Nat.reduceMul, Nat.reduceSub, Nat.reduceLeDiff, Nat.reduceLT, Nat.reduceEqDiff, Nat.reduceBEq, Nat.reduceBNe, Nat.reduceMod, Nat.reduceDiv, Int.reduceLE, Int.reduceLT, Int.reduceToNat, Int.reduceAdd, Int.reduceSub, Int.reduceMul, Int.reduceNeg, Int.reduceEq, Int.reduceBEq, Int.reduceBNe, ↓reduceIte, reduceCtorEq, String.reduceBNe, String.reduceEq, reduceDIte, Nat.reducePow, Int.zero_sub, hs, hn1, hn2, hn3]
      refine CThen.by (down_c (heldI a * 65536) (heldI b) _ (by omega) (by omega) (by omega)) ?_
      simp only [push_cast, Nat.reduceAdd, Nat.reduceMul, Nat.reduceSub, Nat.reduceLeDiff, Nat.reduceLT, Nat.reduceEqDiff, Nat.reduceBEq, Nat.reduceBNe, Nat.reduceMod, Nat.reduceDiv, Int.reduceLE, Int.reduceLT, Int.reduceToNat, Int.reduceAdd, Int.reduceSub, Int.reduceMul, Int.reduceNeg, Int.reduceEq, Int.reduceBEq, Int.reduceBNe, ↓reduceIte, reduceCtorEq, String.reduceBNe, String.reduceEq, reduceDIte, Nat.reducePow, Int.zero_sub, hs, hn1, hn2, hn3]
      refine CThen.by (held_c _ _) ?_
      simp only [push_cast, Nat.reduceAdd, Nat.reduceMul, Nat.reduceSub, Nat.reduceLeDiff, Nat.reduceLT, Nat.reduceEqDiff, Nat.reduceBEq, Nat.reduceBNe, Nat.reduceMod, Nat.reduceDiv, Int.reduceLE, Int.reduceLT, Int.reduceToNat, Int.reduceAdd, Int.reduceSub, Int.reduceMul, Int.reduceNeg, Int.reduceEq, Int.reduceBEq, Int.reduceBNe, ↓reduceIte, reduceCtorEq, String.reduceBNe, String.reduceEq, reduceDIte, Nat.reducePow, Int.zero_sub, hs, hn1, hn2, hn3]
      refine Thn_n ?_
      refine hK _ _ ?_
      clear hK K
      refine AW.ret ?_
      refine hQ _ _ _ ?_
      first | refine RetP.drop0 (Or.inr rfl) ?_ ?_ hwf | refine RetP.drop (Or.inr rfl) ?_ ?_ hwf
      · simp only [resA, resOne, resTv, AV.tv, push_cast, Nat.reduceAdd, Nat.reduceMul, Nat.reduceSub, Nat.reduceLeDiff, Nat.reduceLT, Nat.reduceEqDiff, Nat.reduceBEq, Nat.reduceBNe, Nat.reduceMod, Nat.reduceDiv, Int.reduceLE, Int.reduceLT, Int.reduceToNat, Int.reduceAdd, Int.reduceSub, Int.reduceMul, Int.reduceNeg, Int.reduceEq, Int.reduceBEq, Int.reduceBNe, ↓reduceIte, reduceCtorEq, String.reduceBNe, String.reduceEq, reduceDIte, Nat.reducePow, Int.zero_sub, hs, hn1, hn2, hn3, hr]
      · rfl
theorem whole_c (a : Int) (m : AMem) : Ctr Tryd.prog 27 [.one (.int .i64 a)] m (.one (.int .i64 (heldI a / 65536))) m := by
  refine Ctr.enter Tryd.func27 rfl (by decide) (rs := [.tmp 2]) (nt := 6) rfl rfl fun hwf Q hQ => ?_
  have ha := held_b a
  have hw : IntKind.i64.wrap (heldI a / 65536) = heldI a / 65536 := wi (by omega)
  
  refine AW.seq_k fun K hK => ?_
  refine AW.region (by decide) ?_
  simp only [push_cast, Nat.reduceAdd, Nat.reduceMul, Nat.reduceSub, Nat.reduceLeDiff, Nat.reduceLT, Nat.reduceEqDiff, Nat.reduceBEq, Nat.reduceBNe, Nat.reduceMod, Nat.reduceDiv, Int.reduceLE, Int.reduceLT, Int.reduceToNat, Int.reduceAdd, Int.reduceSub, Int.reduceMul, Int.reduceNeg, Int.reduceEq, Int.reduceBEq, Int.reduceBNe, ↓reduceIte, reduceCtorEq, String.reduceBNe, String.reduceEq, reduceDIte, Nat.reducePow, hw, pow16, shr16]
  refine Thn_n ?_
  refine hK _ _ ?_
  clear hK K
  refine AW.seq_k fun K hK => ?_
  refine AW.region (by decide) ?_
  simp only [push_cast, Nat.reduceAdd, Nat.reduceMul, Nat.reduceSub, Nat.reduceLeDiff, Nat.reduceLT, Nat.reduceEqDiff, Nat.reduceBEq, Nat.reduceBNe, Nat.reduceMod, Nat.reduceDiv, Int.reduceLE, Int.reduceLT, Int.reduceToNat, Int.reduceAdd, Int.reduceSub, Int.reduceMul, Int.reduceNeg, Int.reduceEq, Int.reduceBEq, Int.reduceBNe, ↓reduceIte, reduceCtorEq, String.reduceBNe, String.reduceEq, reduceDIte, Nat.reducePow, hw, pow16, shr16]
  refine CThen.by (in_c _ _) ?_
  simp only [push_cast, Nat.reduceAdd, Nat.reduceMul, Nat.reduceSub, Nat.reduceLeDiff, Nat.reduceLT, Nat.reduceEqDiff, Nat.reduceBEq, Nat.reduceBNe, Nat.reduceMod, Nat.reduceDiv, Int.reduceLE, Int.reduceLT, Int.reduceToNat, Int.reduceAdd, Int.reduceSub, Int.reduceMul, Int.reduceNeg, Int.reduceEq, Int.reduceBEq, Int.reduceBNe, ↓reduceIte, reduceCtorEq, String.reduceBNe, String.reduceEq, reduceDIte, Nat.reducePow, hw, pow16, shr16]
  refine Thn_n ?_
  refine hK _ _ ?_
  clear hK K
  refine AW.ret ?_
  refine hQ _ _ _ ?_
  first | refine RetP.drop0 (Or.inr rfl) ?_ ?_ hwf | refine RetP.drop (Or.inr rfl) ?_ ?_ hwf
  · simp only [resA, resOne, resTv, AV.tv, push_cast, Nat.reduceAdd, Nat.reduceMul, Nat.reduceSub, Nat.reduceLeDiff, Nat.reduceLT, Nat.reduceEqDiff, Nat.reduceBEq, Nat.reduceBNe, Nat.reduceMod, Nat.reduceDiv, Int.reduceLE, Int.reduceLT, Int.reduceToNat, Int.reduceAdd, Int.reduceSub, Int.reduceMul, Int.reduceNeg, Int.reduceEq, Int.reduceBEq, Int.reduceBNe, ↓reduceIte, reduceCtorEq, String.reduceBNe, String.reduceEq, reduceDIte, Nat.reducePow, hw, pow16, shr16]
  · rfl
theorem part_c (a : Int) (m : AMem) : Ctr Tryd.prog 29 [.one (.int .i64 a)] m (.one (.int .i64 (heldI a % 65536))) m := by
  refine Ctr.enter Tryd.func29 rfl (by decide) (rs := [.tmp 2]) (nt := 6) rfl rfl fun hwf Q hQ => ?_
  have ha := held_b a
  have hw : IntKind.i64.wrap (heldI a % 65536) = heldI a % 65536 := wi (by omega)
  
  refine AW.seq_k fun K hK => ?_
  refine AW.region (by decide) ?_
  simp only [push_cast, Nat.reduceAdd, Nat.reduceMul, Nat.reduceSub, Nat.reduceLeDiff, Nat.reduceLT, Nat.reduceEqDiff, Nat.reduceBEq, Nat.reduceBNe, Nat.reduceMod, Nat.reduceDiv, Int.reduceLE, Int.reduceLT, Int.reduceToNat, Int.reduceAdd, Int.reduceSub, Int.reduceMul, Int.reduceNeg, Int.reduceEq, Int.reduceBEq, Int.reduceBNe, ↓reduceIte, reduceCtorEq, String.reduceBNe, String.reduceEq, reduceDIte, Nat.reducePow, hw, and_part]
  refine Thn_n ?_
  refine hK _ _ ?_
  clear hK K
  refine AW.seq_k fun K hK => ?_
  refine AW.region (by decide) ?_
  simp only [push_cast, Nat.reduceAdd, Nat.reduceMul, Nat.reduceSub, Nat.reduceLeDiff, Nat.reduceLT, Nat.reduceEqDiff, Nat.reduceBEq, Nat.reduceBNe, Nat.reduceMod, Nat.reduceDiv, Int.reduceLE, Int.reduceLT, Int.reduceToNat, Int.reduceAdd, Int.reduceSub, Int.reduceMul, Int.reduceNeg, Int.reduceEq, Int.reduceBEq, Int.reduceBNe, ↓reduceIte, reduceCtorEq, String.reduceBNe, String.reduceEq, reduceDIte, Nat.reducePow, hw, and_part]
  refine CThen.by (in_c _ _) ?_
  simp only [push_cast, Nat.reduceAdd, Nat.reduceMul, Nat.reduceSub, Nat.reduceLeDiff, Nat.reduceLT, Nat.reduceEqDiff, Nat.reduceBEq, Nat.reduceBNe, Nat.reduceMod, Nat.reduceDiv, Int.reduceLE, Int.reduceLT, Int.reduceToNat, Int.reduceAdd, Int.reduceSub, Int.reduceMul, Int.reduceNeg, Int.reduceEq, Int.reduceBEq, Int.reduceBNe, ↓reduceIte, reduceCtorEq, String.reduceBNe, String.reduceEq, reduceDIte, Nat.reducePow, hw, and_part]
  refine Thn_n ?_
  refine hK _ _ ?_
  clear hK K
  refine AW.ret ?_
  refine hQ _ _ _ ?_
  first | refine RetP.drop0 (Or.inr rfl) ?_ ?_ hwf | refine RetP.drop (Or.inr rfl) ?_ ?_ hwf
  · simp only [resA, resOne, resTv, AV.tv, push_cast, Nat.reduceAdd, Nat.reduceMul, Nat.reduceSub, Nat.reduceLeDiff, Nat.reduceLT, Nat.reduceEqDiff, Nat.reduceBEq, Nat.reduceBNe, Nat.reduceMod, Nat.reduceDiv, Int.reduceLE, Int.reduceLT, Int.reduceToNat, Int.reduceAdd, Int.reduceSub, Int.reduceMul, Int.reduceNeg, Int.reduceEq, Int.reduceBEq, Int.reduceBNe, ↓reduceIte, reduceCtorEq, String.reduceBNe, String.reduceEq, reduceDIte, Nat.reducePow, hw, and_part]
  · rfl
theorem unit_c (a : Int) (m : AMem) : Ctr Tryd.prog 30 [.one (.int .i64 a)] m (.one (.int .i64 (unitI a))) m := by
  refine Ctr.enter Tryd.func30 rfl (by decide) (rs := [.tmp 2]) (nt := 6) rfl rfl fun hwf Q hQ => ?_
  have hu : Eng.maxI 0 (Eng.minI a 65536) = unitI a := by unfold Eng.maxI Eng.minI unitI; (repeat' split) <;> omega
  iterate 2
    refine AW.seq_k fun K hK => ?_
    refine AW.region (by decide) ?_
    simp only [push_cast, Nat.reduceAdd, Nat.reduceMul, Nat.reduceSub, Nat.reduceLeDiff, Nat.reduceLT, Nat.reduceEqDiff, Nat.reduceBEq, Nat.reduceBNe, Nat.reduceMod, Nat.reduceDiv, Int.reduceLE, Int.reduceLT, Int.reduceToNat, Int.reduceAdd, Int.reduceSub, Int.reduceMul, Int.reduceNeg, Int.reduceEq, Int.reduceBEq, Int.reduceBNe, ↓reduceIte, reduceCtorEq, String.reduceBNe, String.reduceEq, reduceDIte, Nat.reducePow]
    refine Thn_n ?_
    refine hK _ _ ?_
    clear hK K
  refine AW.ret ?_
  refine hQ _ _ _ ?_
  first | refine RetP.drop0 (Or.inr rfl) ?_ ?_ hwf | refine RetP.drop (Or.inr rfl) ?_ ?_ hwf
  · simp only [resA, resOne, resTv, AV.tv, push_cast, Nat.reduceAdd, Nat.reduceMul, Nat.reduceSub, Nat.reduceLeDiff, Nat.reduceLT, Nat.reduceEqDiff, Nat.reduceBEq, Nat.reduceBNe, Nat.reduceMod, Nat.reduceDiv, Int.reduceLE, Int.reduceLT, Int.reduceToNat, Int.reduceAdd, Int.reduceSub, Int.reduceMul, Int.reduceNeg, Int.reduceEq, Int.reduceBEq, Int.reduceBNe, ↓reduceIte, reduceCtorEq, String.reduceBNe, String.reduceEq, reduceDIte, Nat.reducePow, hu]
  · rfl
theorem runit_c (a : Int) (m : AMem) : Ctr Tryd.prog 31 [.one (.int .i64 a)] m (.one (.int .i64 (unitI a))) m := by
  refine Ctr.enter Tryd.func31 rfl (by decide) (rs := [.tmp 2]) (nt := 8) rfl rfl fun hwf Q hQ => ?_
  refine AW.seq_k fun K hK => ?_
  refine AW.region (by decide) ?_
  simp only [push_cast, Nat.reduceAdd, Nat.reduceMul, Nat.reduceSub, Nat.reduceLeDiff, Nat.reduceLT, Nat.reduceEqDiff, Nat.reduceBEq, Nat.reduceBNe, Nat.reduceMod, Nat.reduceDiv, Int.reduceLE, Int.reduceLT, Int.reduceToNat, Int.reduceAdd, Int.reduceSub, Int.reduceMul, Int.reduceNeg, Int.reduceEq, Int.reduceBEq, Int.reduceBNe, ↓reduceIte, reduceCtorEq, String.reduceBNe, String.reduceEq, reduceDIte, Nat.reducePow]
  refine Thn_n ?_
  refine hK _ _ ?_
  clear hK K
  refine AW.seq_k fun K hK => ?_
  refine AW.seq_k fun K hK => ?_
  refine AW.region (by decide) ?_
  simp only [push_cast, Nat.reduceAdd, Nat.reduceMul, Nat.reduceSub, Nat.reduceLeDiff, Nat.reduceLT, Nat.reduceEqDiff, Nat.reduceBEq, Nat.reduceBNe, Nat.reduceMod, Nat.reduceDiv, Int.reduceLE, Int.reduceLT, Int.reduceToNat, Int.reduceAdd, Int.reduceSub, Int.reduceMul, Int.reduceNeg, Int.reduceEq, Int.reduceBEq, Int.reduceBNe, ↓reduceIte, reduceCtorEq, String.reduceBNe, String.reduceEq, reduceDIte, Nat.reducePow]
  refine Thn_n ?_
  refine hK _ _ ?_
  clear hK K
  refine AW.cond rfl (fun h4 => ?_) (fun h4 => ?_)
  · have hr : unitI a = 0 := by have := of_decide_eq_true h4; unfold unitI; rw [if_pos this]
    refine AW.seq_k fun K hK => ?_
    refine AW.region (by decide) ?_
    simp only [push_cast, Nat.reduceAdd, Nat.reduceMul, Nat.reduceSub, Nat.reduceLeDiff, Nat.reduceLT, Nat.reduceEqDiff, Nat.reduceBEq, Nat.reduceBNe, Nat.reduceMod, Nat.reduceDiv, Int.reduceLE, Int.reduceLT, Int.reduceToNat, Int.reduceAdd, Int.reduceSub, Int.reduceMul, Int.reduceNeg, Int.reduceEq, Int.reduceBEq, Int.reduceBNe, ↓reduceIte, reduceCtorEq, String.reduceBNe, String.reduceEq, reduceDIte, Nat.reducePow]
    refine Thn_n ?_
    refine hK _ _ ?_
    clear hK K
    refine AW.ret ?_
    refine Thn_r ?_
    refine hQ _ _ _ ?_
    first | refine RetP.drop0 (Or.inr rfl) ?_ ?_ hwf | refine RetP.drop (Or.inr rfl) ?_ ?_ hwf
    · simp only [resA, resOne, resTv, AV.tv, push_cast, Nat.reduceAdd, Nat.reduceMul, Nat.reduceSub, Nat.reduceLeDiff, Nat.reduceLT, Nat.reduceEqDiff, Nat.reduceBEq, Nat.reduceBNe, Nat.reduceMod, Nat.reduceDiv, Int.reduceLE, Int.reduceLT, Int.reduceToNat, Int.reduceAdd, Int.reduceSub, Int.reduceMul, Int.reduceNeg, Int.reduceEq, Int.reduceBEq, Int.reduceBNe, ↓reduceIte, reduceCtorEq, String.reduceBNe, String.reduceEq, reduceDIte, Nat.reducePow, hr]
    · rfl
  · refine AW.skip ?_
    refine Thn_n ?_
    refine hK _ _ ?_
    clear hK K
    refine AW.seq_k fun K hK => ?_
    refine AW.seq_k fun K hK => ?_
    refine AW.region (by decide) ?_
    simp only [push_cast, Nat.reduceAdd, Nat.reduceMul, Nat.reduceSub, Nat.reduceLeDiff, Nat.reduceLT, Nat.reduceEqDiff, Nat.reduceBEq, Nat.reduceBNe, Nat.reduceMod, Nat.reduceDiv, Int.reduceLE, Int.reduceLT, Int.reduceToNat, Int.reduceAdd, Int.reduceSub, Int.reduceMul, Int.reduceNeg, Int.reduceEq, Int.reduceBEq, Int.reduceBNe, ↓reduceIte, reduceCtorEq, String.reduceBNe, String.reduceEq, reduceDIte, Nat.reducePow]
    refine Thn_n ?_
    refine hK _ _ ?_
    clear hK K
    refine AW.cond rfl (fun h6 => ?_) (fun h6 => ?_)
    · have hr : unitI a = 65536 := by have h0 := of_decide_eq_false h4; have := of_decide_eq_true h6; unfold unitI; rw [if_neg h0, if_pos this]
      refine AW.seq_k fun K hK => ?_
      refine AW.region (by decide) ?_
      simp only [push_cast, Nat.reduceAdd, Nat.reduceMul, Nat.reduceSub, Nat.reduceLeDiff, Nat.reduceLT, Nat.reduceEqDiff, Nat.reduceBEq, Nat.reduceBNe, Nat.reduceMod, Nat.reduceDiv, Int.reduceLE, Int.reduceLT, Int.reduceToNat, Int.reduceAdd, Int.reduceSub, Int.reduceMul, Int.reduceNeg, Int.reduceEq, Int.reduceBEq, Int.reduceBNe, ↓reduceIte, reduceCtorEq, String.reduceBNe, String.reduceEq, reduceDIte, Nat.reducePow]
      refine Thn_n ?_
      refine hK _ _ ?_
      clear hK K
      refine AW.ret ?_
      refine Thn_r ?_
      refine hQ _ _ _ ?_
      first | refine RetP.drop0 (Or.inr rfl) ?_ ?_ hwf | refine RetP.drop (Or.inr rfl) ?_ ?_ hwf
      · simp only [resA, resOne, resTv, AV.tv, push_cast, Nat.reduceAdd, Nat.reduceMul, Nat.reduceSub, Nat.reduceLeDiff, Nat.reduceLT, Nat.reduceEqDiff, Nat.reduceBEq, Nat.reduceBNe, Nat.reduceMod, Nat.reduceDiv, Int.reduceLE, Int.reduceLT, Int.reduceToNat, Int.reduceAdd, Int.reduceSub, Int.reduceMul, Int.reduceNeg, Int.reduceEq, Int.reduceBEq, Int.reduceBNe, ↓reduceIte, reduceCtorEq, String.reduceBNe, String.reduceEq, reduceDIte, Nat.reducePow, hr]
      · rfl
    · have hr : unitI a = a := by have h0 := of_decide_eq_false h4; have := of_decide_eq_false h6; unfold unitI; rw [if_neg h0, if_neg this]
      refine AW.skip ?_
      refine Thn_n ?_
      refine hK _ _ ?_
      clear hK K
      refine AW.seq_k fun K hK => ?_
      refine AW.region (by decide) ?_
      simp only [push_cast, Nat.reduceAdd, Nat.reduceMul, Nat.reduceSub, Nat.reduceLeDiff, Nat.reduceLT, Nat.reduceEqDiff, Nat.reduceBEq, Nat.reduceBNe, Nat.reduceMod, Nat.reduceDiv, Int.reduceLE, Int.reduceLT, Int.reduceToNat, Int.reduceAdd, Int.reduceSub, Int.reduceMul, Int.reduceNeg, Int.reduceEq, Int.reduceBEq, Int.reduceBNe, ↓reduceIte, reduceCtorEq, String.reduceBNe, String.reduceEq, reduceDIte, Nat.reducePow]
      refine Thn_n ?_
      refine hK _ _ ?_
      clear hK K
      refine AW.ret ?_
      refine hQ _ _ _ ?_
      first | refine RetP.drop0 (Or.inr rfl) ?_ ?_ hwf | refine RetP.drop (Or.inr rfl) ?_ ?_ hwf
      · simp only [resA, resOne, resTv, AV.tv, push_cast, Nat.reduceAdd, Nat.reduceMul, Nat.reduceSub, Nat.reduceLeDiff, Nat.reduceLT, Nat.reduceEqDiff, Nat.reduceBEq, Nat.reduceBNe, Nat.reduceMod, Nat.reduceDiv, Int.reduceLE, Int.reduceLT, Int.reduceToNat, Int.reduceAdd, Int.reduceSub, Int.reduceMul, Int.reduceNeg, Int.reduceEq, Int.reduceBEq, Int.reduceBNe, ↓reduceIte, reduceCtorEq, String.reduceBNe, String.reduceEq, reduceDIte, Nat.reducePow, hr]
      · rfl
theorem lerp_c (a b t : Int) (m : AMem) : Ctr Tryd.prog 17 [.one (.int .i64 a), .one (.int .i64 b), .one (.int .i64 t)] m (.one (.int .i64 (lerpI a b t))) m := by
  refine Ctr.enter Tryd.func17 rfl (by decide) (rs := [.tmp 6]) (nt := 23) rfl rfl fun hwf Q hQ => ?_
  have ha := held_b a
  have hb := held_b b
  have hu := unit_b t
  have hp := mul_b (x := heldI b - heldI a) (y := unitI t) (A := 4294967296) (B := 65536) (by omega) (by omega)
  have hq := ediv_b (n := (heldI b - heldI a) * unitI t) (d := 65536) (A := 281474976710656) (by decide) (by omega)
  have hk : -4294967296 ≤ (heldI b - heldI a) * unitI t / 65536 ∧ (heldI b - heldI a) * unitI t / 65536 ≤ 4294967296 := by omega
  have w1 : IntKind.i64.wrap (heldI b - heldI a) = heldI b - heldI a := wi (by omega)
  have w0 : IntKind.i64.wrap (unitI t) = unitI t := wi (by omega)
  have w2 : IntKind.i64.wrap ((heldI b - heldI a) * unitI t) = (heldI b - heldI a) * unitI t := wi (by omega)
  have w3 : IntKind.i64.wrap ((heldI b - heldI a) * unitI t / 65536) = (heldI b - heldI a) * unitI t / 65536 := wi (by omega)
  have w4 : IntKind.i64.wrap (heldI a + (heldI b - heldI a) * unitI t / 65536) = heldI a + (heldI b - heldI a) * unitI t / 65536 := wi (by omega)
  
  refine AW.seq_k fun K hK => ?_
  refine AW.region (by decide) ?_
  simp only [push_cast, Nat.reduceAdd, Nat.reduceMul, Nat.reduceSub, Nat.reduceLeDiff, Nat.reduceLT, Nat.reduceEqDiff, Nat.reduceBEq, Nat.reduceBNe, Nat.reduceMod, Nat.reduceDiv, Int.reduceLE, Int.reduceLT, Int.reduceToNat, Int.reduceAdd, Int.reduceSub, Int.reduceMul, Int.reduceNeg, Int.reduceEq, Int.reduceBEq, Int.reduceBNe, ↓reduceIte, reduceCtorEq, String.reduceBNe, String.reduceEq, reduceDIte, Nat.reducePow, w0, w1, w2, w3, w4, pow16, shr16]
  refine Thn_n ?_
  refine hK _ _ ?_
  clear hK K
  refine AW.seq_k fun K hK => ?_
  refine AW.region (by decide) ?_
  iterate 2
    simp only [push_cast, Nat.reduceAdd, Nat.reduceMul, Nat.reduceSub, Nat.reduceLeDiff, Nat.reduceLT, Nat.reduceEqDiff, Nat.reduceBEq, Nat.reduceBNe, Nat.reduceMod, Nat.reduceDiv, Int.reduceLE, Int.reduceLT, Int.reduceToNat, Int.reduceAdd, Int.reduceSub, Int.reduceMul, Int.reduceNeg, Int.reduceEq, Int.reduceBEq, Int.reduceBNe, ↓reduceIte, reduceCtorEq, String.reduceBNe, String.reduceEq, reduceDIte, Nat.reducePow, w0, w1, w2, w3, w4, pow16, shr16]
    refine CThen.by (in_c _ _) ?_
  simp only [push_cast, Nat.reduceAdd, Nat.reduceMul, Nat.reduceSub, Nat.reduceLeDiff, Nat.reduceLT, Nat.reduceEqDiff, Nat.reduceBEq, Nat.reduceBNe, Nat.reduceMod, Nat.reduceDiv, Int.reduceLE, Int.reduceLT, Int.reduceToNat, Int.reduceAdd, Int.reduceSub, Int.reduceMul, Int.reduceNeg, Int.reduceEq, Int.reduceBEq, Int.reduceBNe, ↓reduceIte, reduceCtorEq, String.reduceBNe, String.reduceEq, reduceDIte, Nat.reducePow, w0, w1, w2, w3, w4, pow16, shr16]
  refine Thn_n ?_
  refine hK _ _ ?_
  clear hK K
  refine AW.seq_k fun K hK => ?_
  refine AW.region (by decide) ?_
  simp only [push_cast, Nat.reduceAdd, Nat.reduceMul, Nat.reduceSub, Nat.reduceLeDiff, Nat.reduceLT, Nat.reduceEqDiff, Nat.reduceBEq, Nat.reduceBNe, Nat.reduceMod, Nat.reduceDiv, Int.reduceLE, Int.reduceLT, Int.reduceToNat, Int.reduceAdd, Int.reduceSub, Int.reduceMul, Int.reduceNeg, Int.reduceEq, Int.reduceBEq, Int.reduceBNe, ↓reduceIte, reduceCtorEq, String.reduceBNe, String.reduceEq, reduceDIte, Nat.reducePow, w0, w1, w2, w3, w4, pow16, shr16]
  refine CThen.by (unit_c _ _) ?_
  simp only [push_cast, Nat.reduceAdd, Nat.reduceMul, Nat.reduceSub, Nat.reduceLeDiff, Nat.reduceLT, Nat.reduceEqDiff, Nat.reduceBEq, Nat.reduceBNe, Nat.reduceMod, Nat.reduceDiv, Int.reduceLE, Int.reduceLT, Int.reduceToNat, Int.reduceAdd, Int.reduceSub, Int.reduceMul, Int.reduceNeg, Int.reduceEq, Int.reduceBEq, Int.reduceBNe, ↓reduceIte, reduceCtorEq, String.reduceBNe, String.reduceEq, reduceDIte, Nat.reducePow, w0, w1, w2, w3, w4, pow16, shr16]
  refine CThen.by (clamp_c _ _) ?_
  simp only [push_cast, Nat.reduceAdd, Nat.reduceMul, Nat.reduceSub, Nat.reduceLeDiff, Nat.reduceLT, Nat.reduceEqDiff, Nat.reduceBEq, Nat.reduceBNe, Nat.reduceMod, Nat.reduceDiv, Int.reduceLE, Int.reduceLT, Int.reduceToNat, Int.reduceAdd, Int.reduceSub, Int.reduceMul, Int.reduceNeg, Int.reduceEq, Int.reduceBEq, Int.reduceBNe, ↓reduceIte, reduceCtorEq, String.reduceBNe, String.reduceEq, reduceDIte, Nat.reducePow, w0, w1, w2, w3, w4, pow16, shr16]
  refine Thn_n ?_
  refine hK _ _ ?_
  clear hK K
  refine AW.ret ?_
  refine hQ _ _ _ ?_
  first | refine RetP.drop0 (Or.inr rfl) ?_ ?_ hwf | refine RetP.drop (Or.inr rfl) ?_ ?_ hwf
  · simp only [resA, resOne, resTv, AV.tv, push_cast, Nat.reduceAdd, Nat.reduceMul, Nat.reduceSub, Nat.reduceLeDiff, Nat.reduceLT, Nat.reduceEqDiff, Nat.reduceBEq, Nat.reduceBNe, Nat.reduceMod, Nat.reduceDiv, Int.reduceLE, Int.reduceLT, Int.reduceToNat, Int.reduceAdd, Int.reduceSub, Int.reduceMul, Int.reduceNeg, Int.reduceEq, Int.reduceBEq, Int.reduceBNe, ↓reduceIte, reduceCtorEq, String.reduceBNe, String.reduceEq, reduceDIte, Nat.reducePow, w0, w1, w2, w3, w4, pow16, shr16, lerpI]
  · rfl
theorem rlerp_c (a b t : Int) (m : AMem) : Ctr Tryd.prog 32 [.one (.int .i64 a), .one (.int .i64 b), .one (.int .i64 t)] m (.one (.int .i64 (lerpI a b t))) m := by
  refine Ctr.enter Tryd.func32 rfl (by decide) (rs := [.tmp 6]) (nt := 21) rfl rfl fun hwf Q hQ => ?_
  have ha := held_b a
  have hb := held_b b
  have hu := unit_b t
  have hp := mul_b (x := heldI b - heldI a) (y := unitI t) (A := 4294967296) (B := 65536) (by omega) (by omega)
  have hq := ediv_b (n := (heldI b - heldI a) * unitI t) (d := 65536) (A := 281474976710656) (by decide) (by omega)
  have hk : -4294967296 ≤ (heldI b - heldI a) * unitI t / 65536 ∧ (heldI b - heldI a) * unitI t / 65536 ≤ 4294967296 := by omega
  have w1 : IntKind.i64.wrap (heldI b - heldI a) = heldI b - heldI a := wi (by omega)
  have w0 : IntKind.i64.wrap (unitI t) = unitI t := wi (by omega)
  have w2 : IntKind.i64.wrap ((heldI b - heldI a) * unitI t) = (heldI b - heldI a) * unitI t := wi (by omega)
  have w3 : IntKind.i64.wrap ((heldI b - heldI a) * unitI t / 65536) = (heldI b - heldI a) * unitI t / 65536 := wi (by omega)
  have w4 : IntKind.i64.wrap (heldI a + (heldI b - heldI a) * unitI t / 65536) = heldI a + (heldI b - heldI a) * unitI t / 65536 := wi (by omega)
  
  refine AW.seq_k fun K hK => ?_
  refine AW.region (by decide) ?_
  iterate 2
    simp only [push_cast, Nat.reduceAdd, Nat.reduceMul, Nat.reduceSub, Nat.reduceLeDiff, Nat.reduceLT, Nat.reduceEqDiff, Nat.reduceBEq, Nat.reduceBNe, Nat.reduceMod, Nat.reduceDiv, Int.reduceLE, Int.reduceLT, Int.reduceToNat, Int.reduceAdd, Int.reduceSub, Int.reduceMul, Int.reduceNeg, Int.reduceEq, Int.reduceBEq, Int.reduceBNe, ↓reduceIte, reduceCtorEq, String.reduceBNe, String.reduceEq, reduceDIte, Nat.reducePow, w0, w1, w2, w3, w4]
    refine Thn_n ?_
    refine hK _ _ ?_
    clear hK K
    refine AW.seq_k fun K hK => ?_
    refine AW.region (by decide) ?_
    simp only [push_cast, Nat.reduceAdd, Nat.reduceMul, Nat.reduceSub, Nat.reduceLeDiff, Nat.reduceLT, Nat.reduceEqDiff, Nat.reduceBEq, Nat.reduceBNe, Nat.reduceMod, Nat.reduceDiv, Int.reduceLE, Int.reduceLT, Int.reduceToNat, Int.reduceAdd, Int.reduceSub, Int.reduceMul, Int.reduceNeg, Int.reduceEq, Int.reduceBEq, Int.reduceBNe, ↓reduceIte, reduceCtorEq, String.reduceBNe, String.reduceEq, reduceDIte, Nat.reducePow, w0, w1, w2, w3, w4]
    refine CThen.by (held_c _ _) ?_
  simp only [push_cast, Nat.reduceAdd, Nat.reduceMul, Nat.reduceSub, Nat.reduceLeDiff, Nat.reduceLT, Nat.reduceEqDiff, Nat.reduceBEq, Nat.reduceBNe, Nat.reduceMod, Nat.reduceDiv, Int.reduceLE, Int.reduceLT, Int.reduceToNat, Int.reduceAdd, Int.reduceSub, Int.reduceMul, Int.reduceNeg, Int.reduceEq, Int.reduceBEq, Int.reduceBNe, ↓reduceIte, reduceCtorEq, String.reduceBNe, String.reduceEq, reduceDIte, Nat.reducePow, w0, w1, w2, w3, w4]
  refine Thn_n ?_
  refine hK _ _ ?_
  clear hK K
  refine AW.seq_k fun K hK => ?_
  refine AW.region (by decide) ?_
  simp only [push_cast, Nat.reduceAdd, Nat.reduceMul, Nat.reduceSub, Nat.reduceLeDiff, Nat.reduceLT, Nat.reduceEqDiff, Nat.reduceBEq, Nat.reduceBNe, Nat.reduceMod, Nat.reduceDiv, Int.reduceLE, Int.reduceLT, Int.reduceToNat, Int.reduceAdd, Int.reduceSub, Int.reduceMul, Int.reduceNeg, Int.reduceEq, Int.reduceBEq, Int.reduceBNe, ↓reduceIte, reduceCtorEq, String.reduceBNe, String.reduceEq, reduceDIte, Nat.reducePow, w0, w1, w2, w3, w4]
  refine CThen.by (runit_c _ _) ?_
  simp only [push_cast, Nat.reduceAdd, Nat.reduceMul, Nat.reduceSub, Nat.reduceLeDiff, Nat.reduceLT, Nat.reduceEqDiff, Nat.reduceBEq, Nat.reduceBNe, Nat.reduceMod, Nat.reduceDiv, Int.reduceLE, Int.reduceLT, Int.reduceToNat, Int.reduceAdd, Int.reduceSub, Int.reduceMul, Int.reduceNeg, Int.reduceEq, Int.reduceBEq, Int.reduceBNe, ↓reduceIte, reduceCtorEq, String.reduceBNe, String.reduceEq, reduceDIte, Nat.reducePow, w0, w1, w2, w3, w4]
  refine CThen.by (down_c ((heldI b - heldI a) * unitI t) 65536 _ (by decide) (by omega) (by decide)) ?_
  simp only [push_cast, Nat.reduceAdd, Nat.reduceMul, Nat.reduceSub, Nat.reduceLeDiff, Nat.reduceLT, Nat.reduceEqDiff, Nat.reduceBEq, Nat.reduceBNe, Nat.reduceMod, Nat.reduceDiv, Int.reduceLE, Int.reduceLT, Int.reduceToNat, Int.reduceAdd, Int.reduceSub, Int.reduceMul, Int.reduceNeg, Int.reduceEq, Int.reduceBEq, Int.reduceBNe, ↓reduceIte, reduceCtorEq, String.reduceBNe, String.reduceEq, reduceDIte, Nat.reducePow, w0, w1, w2, w3, w4]
  refine CThen.by (held_c _ _) ?_
  simp only [push_cast, Nat.reduceAdd, Nat.reduceMul, Nat.reduceSub, Nat.reduceLeDiff, Nat.reduceLT, Nat.reduceEqDiff, Nat.reduceBEq, Nat.reduceBNe, Nat.reduceMod, Nat.reduceDiv, Int.reduceLE, Int.reduceLT, Int.reduceToNat, Int.reduceAdd, Int.reduceSub, Int.reduceMul, Int.reduceNeg, Int.reduceEq, Int.reduceBEq, Int.reduceBNe, ↓reduceIte, reduceCtorEq, String.reduceBNe, String.reduceEq, reduceDIte, Nat.reducePow, w0, w1, w2, w3, w4]
  refine Thn_n ?_
  refine hK _ _ ?_
  clear hK K
  refine AW.ret ?_
  refine hQ _ _ _ ?_
  first | refine RetP.drop0 (Or.inr rfl) ?_ ?_ hwf | refine RetP.drop (Or.inr rfl) ?_ ?_ hwf
  · simp only [resA, resOne, resTv, AV.tv, push_cast, Nat.reduceAdd, Nat.reduceMul, Nat.reduceSub, Nat.reduceLeDiff, Nat.reduceLT, Nat.reduceEqDiff, Nat.reduceBEq, Nat.reduceBNe, Nat.reduceMod, Nat.reduceDiv, Int.reduceLE, Int.reduceLT, Int.reduceToNat, Int.reduceAdd, Int.reduceSub, Int.reduceMul, Int.reduceNeg, Int.reduceEq, Int.reduceBEq, Int.reduceBNe, ↓reduceIte, reduceCtorEq, String.reduceBNe, String.reduceEq, reduceDIte, Nat.reducePow, w0, w1, w2, w3, w4, lerpI]
  · rfl
end Go.Proofs.YtlhppfdokgeijaaDoor

/-
  ENGINE, PART V: from a contract to a row that bears a condition of its own and lists variables with what they hold.
-/
set_option linter.unusedVariables false
namespace Go.Eng
open Go
variable {H : Type} {enc : TypeId × Value → H}
theorem returns_row_cond {a : Assume} {C : Checked} {os : Os} {f : FuncId} {fn : Func} {s : OpenSpec} {k : (H : Type) → List (DataW H) → Bool} (hk : s.cond = some k) {F : Stop.Interp} {conds : List PathCond} {apart fresh handsOn again : Bool} {laid : List (String × DataW Unit)}
    (own : ownKnob C.prog.godebug = none) (started : os.Started) (noInit : C.prog.inits.idxOf? f = none) (hfn : C.prog.funcs[f]? = some fn)
    (witness : ∃ (w : World) (tape : Tape) (i : Input), w.os = os ∧ (w.forCall tape i).Shaped C.prog ∧ i.vars = [] ∧ Input.okWide C.prog (w.forCall tape i) .any w.heap.size f i ∧
      s.preRow enc C.prog fn conds apart laid (w.forCall tape i).memory i.args ∧ a.holds C.prog (lone (Frame.enter C.prog f i.args .normal) [] (w.forCall tape i)))
    (contract : ∀ (W : World) (base : Nat) (args : Array Value) (ds gs : List (DataW H)) (before : List MemPlace),
      (∀ (j : Nat) t v, fn.params[j]? = some t → args[j]? = some v → Value.okWide C.prog W .any base t v) →
      DataW.Whole enc C.prog fn.params.toList s.vars apart W args.toList ds gs before → k H (ds ++ gs) = true →
      Calls C.prog f args W fun e W' => ∃ v, e = .returned v ∧ (s.at F).post enc C.prog fn apart fresh handsOn again W args v W') :
    ReturnsInHanded a C os f .any (s.preRow enc C.prog fn conds apart laid) ((s.at F).post enc C.prog fn apart fresh handsOn again) := by
  refine returnsInHanded_of_calls own started noInit witness ?_
  intro w tape i _ _ _ hok hpre hholds
  obtain ⟨_, _, _, fn', hfn', _, _, _, _, hval⟩ := hok
  have e : fn' = fn := Option.some.inj (hfn'.symm.trans hfn)
  subst e
  obtain ⟨ds, gs, before, hw, hc, hkk⟩ := (OpenSpec.pre_some hk conds apart _ _).1 hpre.1.1
  have hw' := DataW.Whole.of_heap (w' := w.forCall tape i) (by rfl) hw
  refine (contract (w.forCall tape i) w.heap.size i.args ds gs before hval hw' hkk).mono fun e W' ⟨v, he, hp⟩ => ?_
  subst he
  exact ChangeSpec.post_blind hp
theorem witness_row {C : Checked} {os : Os} {f : FuncId} {fn : Func} {s : OpenSpec} {k : (H : Type) → List (DataW H) → Bool} (hk : s.cond = some k) {conds : List PathCond} {apart : Bool} {laid : List (String × DataW Unit)} (modest : Bool) (w0 : World) (args : Array Value) (fuel : Nat) (hos : w0.os = os)
    (hsh : (w0.forCall (fun _ _ => 0) ⟨#[], args, []⟩).Shaped C.prog)
    (hok : Input.okWideB C.prog (w0.forCall (fun _ _ => 0) ⟨#[], args, []⟩) f ⟨#[], args, []⟩ = true)
    {x : List (DataW H) × List (DataW H) × List MemPlace} (hx : DataW.whole enc C.prog (w0.forCall (fun _ _ => 0) ⟨#[], args, []⟩).memory fn.params.toList s.vars apart args.toList fuel = some x)
    (hconds : conds.all (PathCond.test C.prog ⟨fn.params.toList, x.1, s.bare.plain.varTypes C.prog, x.2.1⟩) = true) (hkk : k H (x.1 ++ x.2.1) = true)
    (hl : laidMetH C.prog laid (w0.forCall (fun _ _ => 0) ⟨#[], args, []⟩).memory)
    (hsz : s.bare.sizedB enc C.prog fn apart (w0.forCall (fun _ _ => 0) ⟨#[], args, []⟩).memory args fuel = true := by kernel_rfl) :
    ∃ (w : World) (tape : Tape) (i : Input), w.os = os ∧ (w.forCall tape i).Shaped C.prog ∧ i.vars = [] ∧ Input.okWide C.prog (w.forCall tape i) .any w.heap.size f i ∧
      s.preRow enc C.prog fn conds apart laid (w.forCall tape i).memory i.args ∧ ({ modest := modest } : Assume).holds C.prog (lone (Frame.enter C.prog f i.args .normal) [] (w.forCall tape i)) :=
  ⟨w0, fun _ _ => 0, ⟨#[], args, []⟩, hos, hsh, (Input.okWide_of_okWideB (base := 0) hok).1, (Input.okWide_of_okWideB hok).2,
    ⟨⟨(OpenSpec.pre_some hk conds apart _ _).2 ⟨x.1, x.2.1, x.2.2, DataW.Whole_of_whole hx, hconds, hkk⟩, hl⟩, sizedMet_of_sizedB hsz⟩, by
    simp only [Assume.holds]
    exact ⟨by simp, by simp, fun _ => Modest.zero, by simp, by simp⟩⟩
end Go.Eng
