/-
  FACTS on the types of this seat's program, written by a program of mine (gen_facts.py).
-/
import Derived.Test.YtlhppfdokgeijaaDoorProg
import Derived.Test.YtlhppfdokgeijaaDoorEngN
set_option maxRecDepth 100000
namespace Go.Proofs.YtlhppfdokgeijaaDoor
open Go Go.Eng
theorem fol : Tryd.prog.follows .mixedOrders = true := by kernel_rfl
theorem sz1 : szOf Tryd.prog 1 = some 1 := by kernel_rfl
theorem by1 : byOf Tryd.prog 1 = some 8 := by kernel_rfl
theorem ag1 : aggOf Tryd.prog 1 = some false := by kernel_rfl
theorem zr1 : zeroOf Tryd.prog 1 = some .nilFunc := by kernel_rfl
theorem sz2 : szOf Tryd.prog 2 = some 1 := by kernel_rfl
theorem by2 : byOf Tryd.prog 2 = some 8 := by kernel_rfl
theorem ag2 : aggOf Tryd.prog 2 = some false := by kernel_rfl
theorem zr2 : zeroOf Tryd.prog 2 = some (.int .i64 0) := by kernel_rfl
theorem sz3 : szOf Tryd.prog 3 = some 1 := by kernel_rfl
theorem by3 : byOf Tryd.prog 3 = some 8 := by kernel_rfl
theorem ag3 : aggOf Tryd.prog 3 = some false := by kernel_rfl
theorem zr3 : zeroOf Tryd.prog 3 = some (.int .i64 0) := by kernel_rfl
theorem sz4 : szOf Tryd.prog 4 = some 1 := by kernel_rfl
theorem by4 : byOf Tryd.prog 4 = some 1 := by kernel_rfl
theorem ag4 : aggOf Tryd.prog 4 = some false := by kernel_rfl
theorem zr4 : zeroOf Tryd.prog 4 = some (.bool false) := by kernel_rfl
theorem sz5 : szOf Tryd.prog 5 = some 1 := by kernel_rfl
theorem by5 : byOf Tryd.prog 5 = some 1 := by kernel_rfl
theorem ag5 : aggOf Tryd.prog 5 = some false := by kernel_rfl
theorem zr5 : zeroOf Tryd.prog 5 = some (.int .u8 0) := by kernel_rfl
theorem sz9 : szOf Tryd.prog 9 = some 1 := by kernel_rfl
theorem by9 : byOf Tryd.prog 9 = some 16 := by kernel_rfl
theorem ag9 : aggOf Tryd.prog 9 = some false := by kernel_rfl
theorem zr9 : zeroOf Tryd.prog 9 = some (.string ByteArray.empty) := by kernel_rfl
theorem sz12 : szOf Tryd.prog 12 = some 1 := by kernel_rfl
theorem by12 : byOf Tryd.prog 12 = some 8 := by kernel_rfl
theorem ag12 : aggOf Tryd.prog 12 = some false := by kernel_rfl
theorem zr12 : zeroOf Tryd.prog 12 = some (.int .u64 0) := by kernel_rfl
theorem sz15 : szOf Tryd.prog 15 = some 1 := by kernel_rfl
theorem by15 : byOf Tryd.prog 15 = some 8 := by kernel_rfl
theorem ag15 : aggOf Tryd.prog 15 = some false := by kernel_rfl
theorem zr15 : zeroOf Tryd.prog 15 = some (.pointer none) := by kernel_rfl
theorem sz16 : szOf Tryd.prog 16 = some 1 := by kernel_rfl
theorem by16 : byOf Tryd.prog 16 = some 8 := by kernel_rfl
theorem ag16 : aggOf Tryd.prog 16 = some false := by kernel_rfl
theorem zr16 : zeroOf Tryd.prog 16 = some (.pointer none) := by kernel_rfl
theorem sz17 : szOf Tryd.prog 17 = some 1 := by kernel_rfl
theorem by17 : byOf Tryd.prog 17 = some 8 := by kernel_rfl
theorem ag17 : aggOf Tryd.prog 17 = some false := by kernel_rfl
theorem zr17 : zeroOf Tryd.prog 17 = some (.pointer none) := by kernel_rfl
theorem sz20 : szOf Tryd.prog 20 = some 1 := by kernel_rfl
theorem by20 : byOf Tryd.prog 20 = some 16 := by kernel_rfl
theorem ag20 : aggOf Tryd.prog 20 = some false := by kernel_rfl
theorem zr20 : zeroOf Tryd.prog 20 = some .nilIface := by kernel_rfl
theorem sz21 : szOf Tryd.prog 21 = some 1 := by kernel_rfl
theorem by21 : byOf Tryd.prog 21 = some 4 := by kernel_rfl
theorem ag21 : aggOf Tryd.prog 21 = some false := by kernel_rfl
theorem zr21 : zeroOf Tryd.prog 21 = some (.int .i32 0) := by kernel_rfl
theorem sz22 : szOf Tryd.prog 22 = some 1 := by kernel_rfl
theorem by22 : byOf Tryd.prog 22 = some 8 := by kernel_rfl
theorem ag22 : aggOf Tryd.prog 22 = some false := by kernel_rfl
theorem zr22 : zeroOf Tryd.prog 22 = some (.int .i64 0) := by kernel_rfl
theorem sz23 : szOf Tryd.prog 23 = some 1 := by kernel_rfl
theorem by23 : byOf Tryd.prog 23 = some 8 := by kernel_rfl
theorem ag23 : aggOf Tryd.prog 23 = some false := by kernel_rfl
theorem zr23 : zeroOf Tryd.prog 23 = some .nilFunc := by kernel_rfl
theorem sz24 : szOf Tryd.prog 24 = some 1 := by kernel_rfl
theorem by24 : byOf Tryd.prog 24 = some 8 := by kernel_rfl
theorem ag24 : aggOf Tryd.prog 24 = some false := by kernel_rfl
theorem zr24 : zeroOf Tryd.prog 24 = some .nilFunc := by kernel_rfl
theorem sz25 : szOf Tryd.prog 25 = some 1 := by kernel_rfl
theorem by25 : byOf Tryd.prog 25 = some 8 := by kernel_rfl
theorem ag25 : aggOf Tryd.prog 25 = some false := by kernel_rfl
theorem zr25 : zeroOf Tryd.prog 25 = some .nilFunc := by kernel_rfl
theorem sz26 : szOf Tryd.prog 26 = some 1 := by kernel_rfl
theorem by26 : byOf Tryd.prog 26 = some 8 := by kernel_rfl
theorem ag26 : aggOf Tryd.prog 26 = some false := by kernel_rfl
theorem zr26 : zeroOf Tryd.prog 26 = some .nilFunc := by kernel_rfl
theorem sz27 : szOf Tryd.prog 27 = some 1 := by kernel_rfl
theorem by27 : byOf Tryd.prog 27 = some 8 := by kernel_rfl
theorem ag27 : aggOf Tryd.prog 27 = some false := by kernel_rfl
theorem zr27 : zeroOf Tryd.prog 27 = some .nilFunc := by kernel_rfl
theorem sz28 : szOf Tryd.prog 28 = some 1 := by kernel_rfl
theorem by28 : byOf Tryd.prog 28 = some 8 := by kernel_rfl
theorem ag28 : aggOf Tryd.prog 28 = some false := by kernel_rfl
theorem zr28 : zeroOf Tryd.prog 28 = some .nilFunc := by kernel_rfl
theorem sz29 : szOf Tryd.prog 29 = some 1 := by kernel_rfl
theorem by29 : byOf Tryd.prog 29 = some 8 := by kernel_rfl
theorem ag29 : aggOf Tryd.prog 29 = some false := by kernel_rfl
theorem zr29 : zeroOf Tryd.prog 29 = some (.int .u64 0) := by kernel_rfl
theorem sz30 : szOf Tryd.prog 30 = some 1 := by kernel_rfl
theorem by30 : byOf Tryd.prog 30 = some 8 := by kernel_rfl
theorem ag30 : aggOf Tryd.prog 30 = some false := by kernel_rfl
theorem zr30 : zeroOf Tryd.prog 30 = some .nilFunc := by kernel_rfl
theorem sz31 : szOf Tryd.prog 31 = some 1 := by kernel_rfl
theorem by31 : byOf Tryd.prog 31 = some 8 := by kernel_rfl
theorem ag31 : aggOf Tryd.prog 31 = some false := by kernel_rfl
theorem zr31 : zeroOf Tryd.prog 31 = some .nilFunc := by kernel_rfl
theorem sz32 : szOf Tryd.prog 32 = some 1 := by kernel_rfl
theorem by32 : byOf Tryd.prog 32 = some 8 := by kernel_rfl
theorem ag32 : aggOf Tryd.prog 32 = some false := by kernel_rfl
theorem zr32 : zeroOf Tryd.prog 32 = some .nilFunc := by kernel_rfl
theorem sz33 : szOf Tryd.prog 33 = some 1 := by kernel_rfl
theorem by33 : byOf Tryd.prog 33 = some 8 := by kernel_rfl
theorem ag33 : aggOf Tryd.prog 33 = some false := by kernel_rfl
theorem zr33 : zeroOf Tryd.prog 33 = some .nilFunc := by kernel_rfl
theorem sz34 : szOf Tryd.prog 34 = some 1 := by kernel_rfl
theorem by34 : byOf Tryd.prog 34 = some 8 := by kernel_rfl
theorem ag34 : aggOf Tryd.prog 34 = some false := by kernel_rfl
theorem zr34 : zeroOf Tryd.prog 34 = some .nilFunc := by kernel_rfl
theorem sz35 : szOf Tryd.prog 35 = some 1 := by kernel_rfl
theorem by35 : byOf Tryd.prog 35 = some 8 := by kernel_rfl
theorem ag35 : aggOf Tryd.prog 35 = some false := by kernel_rfl
theorem zr35 : zeroOf Tryd.prog 35 = some .nilFunc := by kernel_rfl
theorem sz36 : szOf Tryd.prog 36 = some 1 := by kernel_rfl
theorem by36 : byOf Tryd.prog 36 = some 8 := by kernel_rfl
theorem ag36 : aggOf Tryd.prog 36 = some false := by kernel_rfl
theorem zr36 : zeroOf Tryd.prog 36 = some .nilFunc := by kernel_rfl
theorem sz37 : szOf Tryd.prog 37 = some 1 := by kernel_rfl
theorem by37 : byOf Tryd.prog 37 = some 8 := by kernel_rfl
theorem ag37 : aggOf Tryd.prog 37 = some false := by kernel_rfl
theorem zr37 : zeroOf Tryd.prog 37 = some .nilFunc := by kernel_rfl
theorem sz38 : szOf Tryd.prog 38 = some 1 := by kernel_rfl
theorem by38 : byOf Tryd.prog 38 = some 8 := by kernel_rfl
theorem ag38 : aggOf Tryd.prog 38 = some false := by kernel_rfl
theorem zr38 : zeroOf Tryd.prog 38 = some .nilFunc := by kernel_rfl
theorem sz39 : szOf Tryd.prog 39 = some 1 := by kernel_rfl
theorem by39 : byOf Tryd.prog 39 = some 8 := by kernel_rfl
theorem ag39 : aggOf Tryd.prog 39 = some false := by kernel_rfl
theorem zr39 : zeroOf Tryd.prog 39 = some .nilFunc := by kernel_rfl
theorem sz40 : szOf Tryd.prog 40 = some 1 := by kernel_rfl
theorem by40 : byOf Tryd.prog 40 = some 24 := by kernel_rfl
theorem ag40 : aggOf Tryd.prog 40 = some false := by kernel_rfl
theorem zr40 : zeroOf Tryd.prog 40 = some (.slice none 0 0) := by kernel_rfl
theorem sz41 : szOf Tryd.prog 41 = some 1 := by kernel_rfl
theorem by41 : byOf Tryd.prog 41 = some 24 := by kernel_rfl
theorem ag41 : aggOf Tryd.prog 41 = some false := by kernel_rfl
theorem zr41 : zeroOf Tryd.prog 41 = some (.slice none 0 0) := by kernel_rfl
theorem sz42 : szOf Tryd.prog 42 = some 1 := by kernel_rfl
theorem by42 : byOf Tryd.prog 42 = some 8 := by kernel_rfl
theorem ag42 : aggOf Tryd.prog 42 = some false := by kernel_rfl
theorem zr42 : zeroOf Tryd.prog 42 = some .nilFunc := by kernel_rfl
theorem sz43 : szOf Tryd.prog 43 = some 1 := by kernel_rfl
theorem by43 : byOf Tryd.prog 43 = some 8 := by kernel_rfl
theorem ag43 : aggOf Tryd.prog 43 = some false := by kernel_rfl
theorem zr43 : zeroOf Tryd.prog 43 = some .nilFunc := by kernel_rfl
theorem sz44 : szOf Tryd.prog 44 = some 1 := by kernel_rfl
theorem by44 : byOf Tryd.prog 44 = some 8 := by kernel_rfl
theorem ag44 : aggOf Tryd.prog 44 = some false := by kernel_rfl
theorem zr44 : zeroOf Tryd.prog 44 = some (.int .i64 0) := by kernel_rfl
theorem sz46 : szOf Tryd.prog 46 = some 1 := by kernel_rfl
theorem by46 : byOf Tryd.prog 46 = some 8 := by kernel_rfl
theorem ag46 : aggOf Tryd.prog 46 = some false := by kernel_rfl
theorem zr46 : zeroOf Tryd.prog 46 = some .nilFunc := by kernel_rfl
theorem sz48 : szOf Tryd.prog 48 = some 1 := by kernel_rfl
theorem by48 : byOf Tryd.prog 48 = some 8 := by kernel_rfl
theorem ag48 : aggOf Tryd.prog 48 = some false := by kernel_rfl
theorem zr48 : zeroOf Tryd.prog 48 = some .nilFunc := by kernel_rfl
theorem sz49 : szOf Tryd.prog 49 = some 1 := by kernel_rfl
theorem by49 : byOf Tryd.prog 49 = some 8 := by kernel_rfl
theorem ag49 : aggOf Tryd.prog 49 = some false := by kernel_rfl
theorem zr49 : zeroOf Tryd.prog 49 = some .nilFunc := by kernel_rfl
theorem sz50 : szOf Tryd.prog 50 = some 1 := by kernel_rfl
theorem by50 : byOf Tryd.prog 50 = some 8 := by kernel_rfl
theorem ag50 : aggOf Tryd.prog 50 = some false := by kernel_rfl
theorem zr50 : zeroOf Tryd.prog 50 = some .nilFunc := by kernel_rfl
theorem sz51 : szOf Tryd.prog 51 = some 1 := by kernel_rfl
theorem by51 : byOf Tryd.prog 51 = some 8 := by kernel_rfl
theorem ag51 : aggOf Tryd.prog 51 = some false := by kernel_rfl
theorem zr51 : zeroOf Tryd.prog 51 = some .nilFunc := by kernel_rfl
theorem sz52 : szOf Tryd.prog 52 = some 1 := by kernel_rfl
theorem by52 : byOf Tryd.prog 52 = some 8 := by kernel_rfl
theorem ag52 : aggOf Tryd.prog 52 = some false := by kernel_rfl
theorem zr52 : zeroOf Tryd.prog 52 = some .nilFunc := by kernel_rfl
theorem sz54 : szOf Tryd.prog 54 = some 1 := by kernel_rfl
theorem by54 : byOf Tryd.prog 54 = some 8 := by kernel_rfl
theorem ag54 : aggOf Tryd.prog 54 = some false := by kernel_rfl
theorem zr54 : zeroOf Tryd.prog 54 = some .nilFunc := by kernel_rfl
theorem sz55 : szOf Tryd.prog 55 = some 1 := by kernel_rfl
theorem by55 : byOf Tryd.prog 55 = some 8 := by kernel_rfl
theorem ag55 : aggOf Tryd.prog 55 = some false := by kernel_rfl
theorem zr55 : zeroOf Tryd.prog 55 = some .nilFunc := by kernel_rfl
theorem sz56 : szOf Tryd.prog 56 = some 1 := by kernel_rfl
theorem by56 : byOf Tryd.prog 56 = some 8 := by kernel_rfl
theorem ag56 : aggOf Tryd.prog 56 = some false := by kernel_rfl
theorem zr56 : zeroOf Tryd.prog 56 = some (.int .u64 0) := by kernel_rfl
theorem sz57 : szOf Tryd.prog 57 = some 1 := by kernel_rfl
theorem by57 : byOf Tryd.prog 57 = some 16 := by kernel_rfl
theorem ag57 : aggOf Tryd.prog 57 = some false := by kernel_rfl
theorem zr57 : zeroOf Tryd.prog 57 = some .nilIface := by kernel_rfl
theorem sz58 : szOf Tryd.prog 58 = some 1 := by kernel_rfl
theorem by58 : byOf Tryd.prog 58 = some 16 := by kernel_rfl
theorem ag58 : aggOf Tryd.prog 58 = some false := by kernel_rfl
theorem zr58 : zeroOf Tryd.prog 58 = some .nilIface := by kernel_rfl
theorem sz60 : szOf Tryd.prog 60 = some 1 := by kernel_rfl
theorem by60 : byOf Tryd.prog 60 = some 8 := by kernel_rfl
theorem ag60 : aggOf Tryd.prog 60 = some false := by kernel_rfl
theorem zr60 : zeroOf Tryd.prog 60 = some .nilFunc := by kernel_rfl
theorem sz61 : szOf Tryd.prog 61 = some 1 := by kernel_rfl
theorem by61 : byOf Tryd.prog 61 = some 8 := by kernel_rfl
theorem ag61 : aggOf Tryd.prog 61 = some false := by kernel_rfl
theorem zr61 : zeroOf Tryd.prog 61 = some .nilFunc := by kernel_rfl
theorem sz62 : szOf Tryd.prog 62 = some 1 := by kernel_rfl
theorem by62 : byOf Tryd.prog 62 = some 8 := by kernel_rfl
theorem ag62 : aggOf Tryd.prog 62 = some false := by kernel_rfl
theorem zr62 : zeroOf Tryd.prog 62 = some .nilFunc := by kernel_rfl
theorem sz63 : szOf Tryd.prog 63 = some 1 := by kernel_rfl
theorem by63 : byOf Tryd.prog 63 = some 8 := by kernel_rfl
theorem ag63 : aggOf Tryd.prog 63 = some false := by kernel_rfl
theorem zr63 : zeroOf Tryd.prog 63 = some .nilFunc := by kernel_rfl
theorem sz64 : szOf Tryd.prog 64 = some 1 := by kernel_rfl
theorem by64 : byOf Tryd.prog 64 = some 8 := by kernel_rfl
theorem ag64 : aggOf Tryd.prog 64 = some false := by kernel_rfl
theorem zr64 : zeroOf Tryd.prog 64 = some .nilFunc := by kernel_rfl
theorem sz65 : szOf Tryd.prog 65 = some 1 := by kernel_rfl
theorem by65 : byOf Tryd.prog 65 = some 24 := by kernel_rfl
theorem ag65 : aggOf Tryd.prog 65 = some false := by kernel_rfl
theorem zr65 : zeroOf Tryd.prog 65 = some (.slice none 0 0) := by kernel_rfl
theorem sz66 : szOf Tryd.prog 66 = some 1 := by kernel_rfl
theorem by66 : byOf Tryd.prog 66 = some 8 := by kernel_rfl
theorem ag66 : aggOf Tryd.prog 66 = some false := by kernel_rfl
theorem zr66 : zeroOf Tryd.prog 66 = some .nilFunc := by kernel_rfl
theorem sz68 : szOf Tryd.prog 68 = some 1 := by kernel_rfl
theorem by68 : byOf Tryd.prog 68 = some 8 := by kernel_rfl
theorem ag68 : aggOf Tryd.prog 68 = some false := by kernel_rfl
theorem zr68 : zeroOf Tryd.prog 68 = some .nilFunc := by kernel_rfl
theorem sz69 : szOf Tryd.prog 69 = some 1 := by kernel_rfl
theorem by69 : byOf Tryd.prog 69 = some 8 := by kernel_rfl
theorem ag69 : aggOf Tryd.prog 69 = some false := by kernel_rfl
theorem zr69 : zeroOf Tryd.prog 69 = some .nilFunc := by kernel_rfl
theorem sz70 : szOf Tryd.prog 70 = some 1 := by kernel_rfl
theorem by70 : byOf Tryd.prog 70 = some 8 := by kernel_rfl
theorem ag70 : aggOf Tryd.prog 70 = some false := by kernel_rfl
theorem zr70 : zeroOf Tryd.prog 70 = some (.pointer none) := by kernel_rfl
theorem sz71 : szOf Tryd.prog 71 = some 1 := by kernel_rfl
theorem by71 : byOf Tryd.prog 71 = some 8 := by kernel_rfl
theorem ag71 : aggOf Tryd.prog 71 = some false := by kernel_rfl
theorem zr71 : zeroOf Tryd.prog 71 = some .nilFunc := by kernel_rfl
theorem sz72 : szOf Tryd.prog 72 = some 1 := by kernel_rfl
theorem by72 : byOf Tryd.prog 72 = some 8 := by kernel_rfl
theorem ag72 : aggOf Tryd.prog 72 = some false := by kernel_rfl
theorem zr72 : zeroOf Tryd.prog 72 = some .nilFunc := by kernel_rfl
theorem sz73 : szOf Tryd.prog 73 = some 1 := by kernel_rfl
theorem by73 : byOf Tryd.prog 73 = some 8 := by kernel_rfl
theorem ag73 : aggOf Tryd.prog 73 = some false := by kernel_rfl
theorem zr73 : zeroOf Tryd.prog 73 = some .nilFunc := by kernel_rfl
theorem sz74 : szOf Tryd.prog 74 = some 24 := by kernel_rfl
theorem by74 : byOf Tryd.prog 74 = some 24 := by kernel_rfl
theorem ag74 : aggOf Tryd.prog 74 = some true := by kernel_rfl
theorem eg74 : Tryd.prog.eqGuardType Tryd.prog.depth 74 = false := by kernel_rfl
theorem zr74 : zeroOf Tryd.prog 74 = some (.agg #[(.int .u8 0), (.int .u8 0), (.int .u8 0), (.int .u8 0), (.int .u8 0), (.int .u8 0), (.int .u8 0), (.int .u8 0), (.int .u8 0), (.int .u8 0), (.int .u8 0), (.int .u8 0), (.int .u8 0), (.int .u8 0), (.int .u8 0), (.int .u8 0), (.int .u8 0), (.int .u8 0), (.int .u8 0), (.int .u8 0), (.int .u8 0), (.int .u8 0), (.int .u8 0), (.int .u8 0)]) := by kernel_rfl
theorem sz75 : szOf Tryd.prog 75 = some 1 := by kernel_rfl
theorem by75 : byOf Tryd.prog 75 = some 8 := by kernel_rfl
theorem ag75 : aggOf Tryd.prog 75 = some false := by kernel_rfl
theorem zr75 : zeroOf Tryd.prog 75 = some .nilFunc := by kernel_rfl
theorem sz76 : szOf Tryd.prog 76 = some 1 := by kernel_rfl
theorem by76 : byOf Tryd.prog 76 = some 8 := by kernel_rfl
theorem ag76 : aggOf Tryd.prog 76 = some false := by kernel_rfl
theorem zr76 : zeroOf Tryd.prog 76 = some .nilFunc := by kernel_rfl
theorem sz78 : szOf Tryd.prog 78 = some 1 := by kernel_rfl
theorem by78 : byOf Tryd.prog 78 = some 8 := by kernel_rfl
theorem ag78 : aggOf Tryd.prog 78 = some false := by kernel_rfl
theorem zr78 : zeroOf Tryd.prog 78 = some .nilFunc := by kernel_rfl
theorem sz79 : szOf Tryd.prog 79 = some 1 := by kernel_rfl
theorem by79 : byOf Tryd.prog 79 = some 8 := by kernel_rfl
theorem ag79 : aggOf Tryd.prog 79 = some false := by kernel_rfl
theorem zr79 : zeroOf Tryd.prog 79 = some .nilFunc := by kernel_rfl
theorem sz80 : szOf Tryd.prog 80 = some 1 := by kernel_rfl
theorem by80 : byOf Tryd.prog 80 = some 8 := by kernel_rfl
theorem ag80 : aggOf Tryd.prog 80 = some false := by kernel_rfl
theorem zr80 : zeroOf Tryd.prog 80 = some .nilFunc := by kernel_rfl
theorem sz81 : szOf Tryd.prog 81 = some 1 := by kernel_rfl
theorem by81 : byOf Tryd.prog 81 = some 8 := by kernel_rfl
theorem ag81 : aggOf Tryd.prog 81 = some false := by kernel_rfl
theorem zr81 : zeroOf Tryd.prog 81 = some .nilFunc := by kernel_rfl
theorem sz82 : szOf Tryd.prog 82 = some 3 := by kernel_rfl
theorem by82 : byOf Tryd.prog 82 = some 48 := by kernel_rfl
theorem ag82 : aggOf Tryd.prog 82 = some true := by kernel_rfl
theorem si82 : Tryd.prog.stoodInHeld 82 = false := by kernel_rfl
theorem zr82 : zeroOf Tryd.prog 82 = some (.agg #[(.string ByteArray.empty), (.string ByteArray.empty), .nilIface]) := by kernel_rfl
theorem sz83 : szOf Tryd.prog 83 = some 3 := by kernel_rfl
theorem by83 : byOf Tryd.prog 83 = some 48 := by kernel_rfl
theorem ag83 : aggOf Tryd.prog 83 = some true := by kernel_rfl
theorem si83 : Tryd.prog.stoodInHeld 83 = false := by kernel_rfl
theorem zr83 : zeroOf Tryd.prog 83 = some (.agg #[(.string ByteArray.empty), (.string ByteArray.empty), .nilIface]) := by kernel_rfl
theorem sz84 : szOf Tryd.prog 84 = some 1 := by kernel_rfl
theorem by84 : byOf Tryd.prog 84 = some 8 := by kernel_rfl
theorem ag84 : aggOf Tryd.prog 84 = some false := by kernel_rfl
theorem zr84 : zeroOf Tryd.prog 84 = some .nilFunc := by kernel_rfl
theorem sz85 : szOf Tryd.prog 85 = some 1 := by kernel_rfl
theorem by85 : byOf Tryd.prog 85 = some 8 := by kernel_rfl
theorem ag85 : aggOf Tryd.prog 85 = some false := by kernel_rfl
theorem zr85 : zeroOf Tryd.prog 85 = some .nilFunc := by kernel_rfl
theorem sz86 : szOf Tryd.prog 86 = some 20 := by kernel_rfl
theorem by86 : byOf Tryd.prog 86 = some 160 := by kernel_rfl
theorem ag86 : aggOf Tryd.prog 86 = some true := by kernel_rfl
theorem eg86 : Tryd.prog.eqGuardType Tryd.prog.depth 86 = false := by kernel_rfl
theorem zr86 : zeroOf Tryd.prog 86 = some (.agg #[(.int .u64 0), (.int .u64 0), (.int .u64 0), (.int .u64 0), (.int .u64 0), (.int .u64 0), (.int .u64 0), (.int .u64 0), (.int .u64 0), (.int .u64 0), (.int .u64 0), (.int .u64 0), (.int .u64 0), (.int .u64 0), (.int .u64 0), (.int .u64 0), (.int .u64 0), (.int .u64 0), (.int .u64 0), (.int .u64 0)]) := by kernel_rfl
theorem sz87 : szOf Tryd.prog 87 = some 1 := by kernel_rfl
theorem by87 : byOf Tryd.prog 87 = some 4 := by kernel_rfl
theorem ag87 : aggOf Tryd.prog 87 = some false := by kernel_rfl
theorem zr87 : zeroOf Tryd.prog 87 = some (.int .u32 0) := by kernel_rfl
theorem sz88 : szOf Tryd.prog 88 = some 65 := by kernel_rfl
theorem by88 : byOf Tryd.prog 88 = some 65 := by kernel_rfl
theorem ag88 : aggOf Tryd.prog 88 = some true := by kernel_rfl
theorem eg88 : Tryd.prog.eqGuardType Tryd.prog.depth 88 = false := by kernel_rfl
theorem zr88 : zeroOf Tryd.prog 88 = some (.agg #[(.int .u8 0), (.int .u8 0), (.int .u8 0), (.int .u8 0), (.int .u8 0), (.int .u8 0), (.int .u8 0), (.int .u8 0), (.int .u8 0), (.int .u8 0), (.int .u8 0), (.int .u8 0), (.int .u8 0), (.int .u8 0), (.int .u8 0), (.int .u8 0), (.int .u8 0), (.int .u8 0), (.int .u8 0), (.int .u8 0), (.int .u8 0), (.int .u8 0), (.int .u8 0), (.int .u8 0), (.int .u8 0), (.int .u8 0), (.int .u8 0), (.int .u8 0), (.int .u8 0), (.int .u8 0), (.int .u8 0), (.int .u8 0), (.int .u8 0), (.int .u8 0), (.int .u8 0), (.int .u8 0), (.int .u8 0), (.int .u8 0), (.int .u8 0), (.int .u8 0), (.int .u8 0), (.int .u8 0), (.int .u8 0), (.int .u8 0), (.int .u8 0), (.int .u8 0), (.int .u8 0), (.int .u8 0), (.int .u8 0), (.int .u8 0), (.int .u8 0), (.int .u8 0), (.int .u8 0), (.int .u8 0), (.int .u8 0), (.int .u8 0), (.int .u8 0), (.int .u8 0), (.int .u8 0), (.int .u8 0), (.int .u8 0), (.int .u8 0), (.int .u8 0), (.int .u8 0), (.int .u8 0)]) := by kernel_rfl
theorem sz89 : szOf Tryd.prog 89 = some 1 := by kernel_rfl
theorem by89 : byOf Tryd.prog 89 = some 8 := by kernel_rfl
theorem ag89 : aggOf Tryd.prog 89 = some false := by kernel_rfl
theorem zr89 : zeroOf Tryd.prog 89 = some .nilFunc := by kernel_rfl
theorem sz90 : szOf Tryd.prog 90 = some 1 := by kernel_rfl
theorem by90 : byOf Tryd.prog 90 = some 8 := by kernel_rfl
theorem ag90 : aggOf Tryd.prog 90 = some false := by kernel_rfl
theorem zr90 : zeroOf Tryd.prog 90 = some .nilFunc := by kernel_rfl
theorem sz92 : szOf Tryd.prog 92 = some 1 := by kernel_rfl
theorem by92 : byOf Tryd.prog 92 = some 8 := by kernel_rfl
theorem ag92 : aggOf Tryd.prog 92 = some false := by kernel_rfl
theorem zr92 : zeroOf Tryd.prog 92 = some .nilFunc := by kernel_rfl
theorem sz93 : szOf Tryd.prog 93 = some 1 := by kernel_rfl
theorem by93 : byOf Tryd.prog 93 = some 8 := by kernel_rfl
theorem ag93 : aggOf Tryd.prog 93 = some false := by kernel_rfl
theorem zr93 : zeroOf Tryd.prog 93 = some (.pointer none) := by kernel_rfl
theorem sz94 : szOf Tryd.prog 94 = some 1 := by kernel_rfl
theorem by94 : byOf Tryd.prog 94 = some 8 := by kernel_rfl
theorem ag94 : aggOf Tryd.prog 94 = some false := by kernel_rfl
theorem zr94 : zeroOf Tryd.prog 94 = some (.pointer none) := by kernel_rfl
theorem sz95 : szOf Tryd.prog 95 = some 1 := by kernel_rfl
theorem by95 : byOf Tryd.prog 95 = some 16 := by kernel_rfl
theorem ag95 : aggOf Tryd.prog 95 = some true := by kernel_rfl
theorem eg95 : Tryd.prog.eqGuardType Tryd.prog.depth 95 = false := by kernel_rfl
theorem si95 : Tryd.prog.stoodInHeld 95 = false := by kernel_rfl
theorem zr95 : zeroOf Tryd.prog 95 = some (.agg #[(.string ByteArray.empty)]) := by kernel_rfl
theorem sz96 : szOf Tryd.prog 96 = some 1 := by kernel_rfl
theorem by96 : byOf Tryd.prog 96 = some 16 := by kernel_rfl
theorem ag96 : aggOf Tryd.prog 96 = some true := by kernel_rfl
theorem eg96 : Tryd.prog.eqGuardType Tryd.prog.depth 96 = false := by kernel_rfl
theorem si96 : Tryd.prog.stoodInHeld 96 = false := by kernel_rfl
theorem zr96 : zeroOf Tryd.prog 96 = some (.agg #[(.string ByteArray.empty)]) := by kernel_rfl
theorem sz97 : szOf Tryd.prog 97 = some 1 := by kernel_rfl
theorem by97 : byOf Tryd.prog 97 = some 8 := by kernel_rfl
theorem ag97 : aggOf Tryd.prog 97 = some false := by kernel_rfl
theorem zr97 : zeroOf Tryd.prog 97 = some .nilFunc := by kernel_rfl
theorem sz98 : szOf Tryd.prog 98 = some 32 := by kernel_rfl
theorem by98 : byOf Tryd.prog 98 = some 32 := by kernel_rfl
theorem ag98 : aggOf Tryd.prog 98 = some true := by kernel_rfl
theorem eg98 : Tryd.prog.eqGuardType Tryd.prog.depth 98 = false := by kernel_rfl
theorem zr98 : zeroOf Tryd.prog 98 = some (.agg #[(.int .u8 0), (.int .u8 0), (.int .u8 0), (.int .u8 0), (.int .u8 0), (.int .u8 0), (.int .u8 0), (.int .u8 0), (.int .u8 0), (.int .u8 0), (.int .u8 0), (.int .u8 0), (.int .u8 0), (.int .u8 0), (.int .u8 0), (.int .u8 0), (.int .u8 0), (.int .u8 0), (.int .u8 0), (.int .u8 0), (.int .u8 0), (.int .u8 0), (.int .u8 0), (.int .u8 0), (.int .u8 0), (.int .u8 0), (.int .u8 0), (.int .u8 0), (.int .u8 0), (.int .u8 0), (.int .u8 0), (.int .u8 0)]) := by kernel_rfl
theorem sz99 : szOf Tryd.prog 99 = some 64 := by kernel_rfl
theorem by99 : byOf Tryd.prog 99 = some 64 := by kernel_rfl
theorem ag99 : aggOf Tryd.prog 99 = some true := by kernel_rfl
theorem eg99 : Tryd.prog.eqGuardType Tryd.prog.depth 99 = false := by kernel_rfl
theorem zr99 : zeroOf Tryd.prog 99 = some (.agg #[(.int .u8 0), (.int .u8 0), (.int .u8 0), (.int .u8 0), (.int .u8 0), (.int .u8 0), (.int .u8 0), (.int .u8 0), (.int .u8 0), (.int .u8 0), (.int .u8 0), (.int .u8 0), (.int .u8 0), (.int .u8 0), (.int .u8 0), (.int .u8 0), (.int .u8 0), (.int .u8 0), (.int .u8 0), (.int .u8 0), (.int .u8 0), (.int .u8 0), (.int .u8 0), (.int .u8 0), (.int .u8 0), (.int .u8 0), (.int .u8 0), (.int .u8 0), (.int .u8 0), (.int .u8 0), (.int .u8 0), (.int .u8 0), (.int .u8 0), (.int .u8 0), (.int .u8 0), (.int .u8 0), (.int .u8 0), (.int .u8 0), (.int .u8 0), (.int .u8 0), (.int .u8 0), (.int .u8 0), (.int .u8 0), (.int .u8 0), (.int .u8 0), (.int .u8 0), (.int .u8 0), (.int .u8 0), (.int .u8 0), (.int .u8 0), (.int .u8 0), (.int .u8 0), (.int .u8 0), (.int .u8 0), (.int .u8 0), (.int .u8 0), (.int .u8 0), (.int .u8 0), (.int .u8 0), (.int .u8 0), (.int .u8 0), (.int .u8 0), (.int .u8 0), (.int .u8 0)]) := by kernel_rfl
theorem sz100 : szOf Tryd.prog 100 = some 1 := by kernel_rfl
theorem by100 : byOf Tryd.prog 100 = some 8 := by kernel_rfl
theorem ag100 : aggOf Tryd.prog 100 = some false := by kernel_rfl
theorem zr100 : zeroOf Tryd.prog 100 = some .nilFunc := by kernel_rfl
theorem sz103 : szOf Tryd.prog 103 = some 0 := by kernel_rfl
theorem by103 : byOf Tryd.prog 103 = some 0 := by kernel_rfl
theorem ag103 : aggOf Tryd.prog 103 = some true := by kernel_rfl
theorem eg103 : Tryd.prog.eqGuardType Tryd.prog.depth 103 = false := by kernel_rfl
theorem zr103 : zeroOf Tryd.prog 103 = some (.agg #[]) := by kernel_rfl
theorem sz106 : szOf Tryd.prog 106 = some 1 := by kernel_rfl
theorem by106 : byOf Tryd.prog 106 = some 8 := by kernel_rfl
theorem ag106 : aggOf Tryd.prog 106 = some false := by kernel_rfl
theorem zr106 : zeroOf Tryd.prog 106 = some .nilFunc := by kernel_rfl
theorem sz109 : szOf Tryd.prog 109 = some 1 := by kernel_rfl
theorem by109 : byOf Tryd.prog 109 = some 8 := by kernel_rfl
theorem ag109 : aggOf Tryd.prog 109 = some false := by kernel_rfl
theorem zr109 : zeroOf Tryd.prog 109 = some .nilFunc := by kernel_rfl
theorem sz114 : szOf Tryd.prog 114 = some 1 := by kernel_rfl
theorem by114 : byOf Tryd.prog 114 = some 8 := by kernel_rfl
theorem ag114 : aggOf Tryd.prog 114 = some false := by kernel_rfl
theorem zr114 : zeroOf Tryd.prog 114 = some (.pointer none) := by kernel_rfl
attribute [push_cast] sz1 by1 ag1 zr1 sz2 by2 ag2 zr2 sz3 by3 ag3 zr3 sz4 by4 ag4 zr4 sz5 by5 ag5 zr5 sz9 by9 ag9 zr9 sz12 by12 ag12 zr12 sz15 by15 ag15 zr15 sz16 by16 ag16 zr16 sz17 by17 ag17 zr17 sz20 by20 ag20 zr20 sz21 by21 ag21 zr21 sz22 by22 ag22 zr22 sz23 by23 ag23 zr23 sz24 by24 ag24 zr24 sz25 by25 ag25 zr25 sz26 by26 ag26 zr26 sz27 by27 ag27 zr27 sz28 by28 ag28 zr28 sz29 by29 ag29 zr29 sz30 by30 ag30 zr30 sz31 by31 ag31 zr31 sz32 by32 ag32 zr32 sz33 by33 ag33 zr33 sz34 by34 ag34 zr34 sz35 by35 ag35 zr35 sz36 by36 ag36 zr36 sz37 by37 ag37 zr37 sz38 by38 ag38 zr38 sz39 by39 ag39 zr39 sz40 by40 ag40 zr40 sz41 by41 ag41 zr41 sz42 by42 ag42 zr42 sz43 by43 ag43 zr43 sz44 by44 ag44 zr44 sz46 by46 ag46 zr46 sz48 by48 ag48 zr48 sz49 by49 ag49 zr49 sz50 by50 ag50 zr50 sz51 by51 ag51 zr51 sz52 by52 ag52 zr52 sz54 by54 ag54 zr54 sz55 by55 ag55 zr55 sz56 by56 ag56 zr56 sz57 by57 ag57 zr57 sz58 by58 ag58 zr58 sz60 by60 ag60 zr60 sz61 by61 ag61 zr61 sz62 by62 ag62 zr62 sz63 by63 ag63 zr63 sz64 by64 ag64 zr64 sz65 by65 ag65 zr65 sz66 by66 ag66 zr66 sz68 by68 ag68 zr68 sz69 by69 ag69 zr69 sz70 by70 ag70 zr70 sz71 by71 ag71 zr71 sz72 by72 ag72 zr72 sz73 by73 ag73 zr73 sz74 by74 ag74 eg74 zr74 sz75 by75 ag75 zr75 sz76 by76 ag76 zr76 sz78 by78 ag78 zr78 sz79 by79 ag79 zr79 sz80 by80 ag80 zr80 sz81 by81 ag81 zr81 sz82 by82 ag82 si82 zr82 sz83 by83 ag83 si83 zr83 sz84 by84 ag84 zr84 sz85 by85 ag85 zr85 sz86 by86 ag86 eg86 zr86 sz87 by87 ag87 zr87 sz88 by88 ag88 eg88 zr88 sz89 by89 ag89 zr89 sz90 by90 ag90 zr90 sz92 by92 ag92 zr92 sz93 by93 ag93 zr93 sz94 by94 ag94 zr94 sz95 by95 ag95 eg95 si95 zr95 sz96 by96 ag96 eg96 si96 zr96 sz97 by97 ag97 zr97 sz98 by98 ag98 eg98 zr98 sz99 by99 ag99 eg99 zr99 sz100 by100 ag100 zr100 sz103 by103 ag103 eg103 zr103 sz106 by106 ag106 zr106 sz109 by109 ag109 zr109 sz114 by114 ag114 zr114 Tryd.underlying0 Tryd.underlying1 Tryd.underlying2 Tryd.underlying3 Tryd.underlying4 Tryd.underlying5 Tryd.underlying6 Tryd.underlying7 Tryd.underlying8 Tryd.underlying9 Tryd.underlying10 Tryd.underlying11 Tryd.underlying12 Tryd.underlying13 Tryd.underlying14 Tryd.underlying15 Tryd.underlying16 Tryd.underlying17 Tryd.underlying18 Tryd.underlying19 Tryd.underlying20 Tryd.underlying21 Tryd.underlying22 Tryd.underlying23 Tryd.underlying24 Tryd.underlying25 Tryd.underlying26 Tryd.underlying27 Tryd.underlying28 Tryd.underlying29 Tryd.underlying30 Tryd.underlying31 Tryd.underlying32 Tryd.underlying33 Tryd.underlying34 Tryd.underlying35 Tryd.underlying36 Tryd.underlying37 Tryd.underlying38 Tryd.underlying39 Tryd.underlying40 Tryd.underlying41 Tryd.underlying42 Tryd.underlying43 Tryd.underlying44 Tryd.underlying45 Tryd.underlying46 Tryd.underlying47 Tryd.underlying48 Tryd.underlying49 Tryd.underlying50 Tryd.underlying51 Tryd.underlying52 Tryd.underlying53 Tryd.underlying54 Tryd.underlying55 Tryd.underlying56 Tryd.underlying57 Tryd.underlying58 Tryd.underlying59 Tryd.underlying60 Tryd.underlying61 Tryd.underlying62 Tryd.underlying63 Tryd.underlying64 Tryd.underlying65 Tryd.underlying66 Tryd.underlying67 Tryd.underlying68 Tryd.underlying69 Tryd.underlying70 Tryd.underlying71 Tryd.underlying72 Tryd.underlying73 Tryd.underlying74 Tryd.underlying75 Tryd.underlying76 Tryd.underlying77 Tryd.underlying78 Tryd.underlying79 Tryd.underlying80 Tryd.underlying81 Tryd.underlying82 Tryd.underlying83 Tryd.underlying84 Tryd.underlying85 Tryd.underlying86 Tryd.underlying87 Tryd.underlying88 Tryd.underlying89 Tryd.underlying90 Tryd.underlying91 Tryd.underlying92 Tryd.underlying93 Tryd.underlying94 Tryd.underlying95 Tryd.underlying96 Tryd.underlying97 Tryd.underlying98 Tryd.underlying99 Tryd.underlying100 Tryd.underlying101 Tryd.underlying102 Tryd.underlying103 Tryd.underlying104 Tryd.underlying105 Tryd.underlying106 Tryd.underlying107 Tryd.underlying108 Tryd.underlying109 Tryd.underlying110 Tryd.underlying111 Tryd.underlying112 Tryd.underlying113 Tryd.underlying114
end Go.Proofs.YtlhppfdokgeijaaDoor
