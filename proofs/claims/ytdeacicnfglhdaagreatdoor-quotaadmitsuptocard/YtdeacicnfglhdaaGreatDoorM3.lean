/- Walks and facts of this seat's program over abstract states, printed by programs of mine; no conditions but those that each theorem names. -/
import Derived.Test.YtdeacicnfglhdaaGreatDoorM2
import Derived.Test.YtdeacicnfglhdaaGreatDoorProg
set_option maxRecDepth 100000
namespace Go.Proofs.YtdeacicnfglhdaaGreatDoor
open Go Go.Eng
theorem fol : Tryz.prog.follows .mixedOrders = true := by kernel_rfl
theorem sz1 : szOf Tryz.prog 1 = some 1 := by kernel_rfl
theorem by1 : byOf Tryz.prog 1 = some 8 := by kernel_rfl
theorem ag1 : aggOf Tryz.prog 1 = some false := by kernel_rfl
theorem zr1 : zeroOf Tryz.prog 1 = some .nilFunc := by kernel_rfl
theorem sz2 : szOf Tryz.prog 2 = some 1 := by kernel_rfl
theorem by2 : byOf Tryz.prog 2 = some 8 := by kernel_rfl
theorem ag2 : aggOf Tryz.prog 2 = some false := by kernel_rfl
theorem zr2 : zeroOf Tryz.prog 2 = some (.int .i64 0) := by kernel_rfl
theorem sz3 : szOf Tryz.prog 3 = some 1 := by kernel_rfl
theorem by3 : byOf Tryz.prog 3 = some 8 := by kernel_rfl
theorem ag3 : aggOf Tryz.prog 3 = some false := by kernel_rfl
theorem zr3 : zeroOf Tryz.prog 3 = some (.int .i64 0) := by kernel_rfl
theorem sz4 : szOf Tryz.prog 4 = some 1 := by kernel_rfl
theorem by4 : byOf Tryz.prog 4 = some 1 := by kernel_rfl
theorem ag4 : aggOf Tryz.prog 4 = some false := by kernel_rfl
theorem zr4 : zeroOf Tryz.prog 4 = some (.bool false) := by kernel_rfl
theorem sz5 : szOf Tryz.prog 5 = some 1 := by kernel_rfl
theorem by5 : byOf Tryz.prog 5 = some 1 := by kernel_rfl
theorem ag5 : aggOf Tryz.prog 5 = some false := by kernel_rfl
theorem zr5 : zeroOf Tryz.prog 5 = some (.int .u8 0) := by kernel_rfl
theorem sz9 : szOf Tryz.prog 9 = some 1 := by kernel_rfl
theorem by9 : byOf Tryz.prog 9 = some 16 := by kernel_rfl
theorem ag9 : aggOf Tryz.prog 9 = some false := by kernel_rfl
theorem zr9 : zeroOf Tryz.prog 9 = some (.string ByteArray.empty) := by kernel_rfl
theorem sz12 : szOf Tryz.prog 12 = some 1 := by kernel_rfl
theorem by12 : byOf Tryz.prog 12 = some 8 := by kernel_rfl
theorem ag12 : aggOf Tryz.prog 12 = some false := by kernel_rfl
theorem zr12 : zeroOf Tryz.prog 12 = some (.int .u64 0) := by kernel_rfl
theorem sz15 : szOf Tryz.prog 15 = some 1 := by kernel_rfl
theorem by15 : byOf Tryz.prog 15 = some 8 := by kernel_rfl
theorem ag15 : aggOf Tryz.prog 15 = some false := by kernel_rfl
theorem zr15 : zeroOf Tryz.prog 15 = some (.pointer none) := by kernel_rfl
theorem sz16 : szOf Tryz.prog 16 = some 1 := by kernel_rfl
theorem by16 : byOf Tryz.prog 16 = some 8 := by kernel_rfl
theorem ag16 : aggOf Tryz.prog 16 = some false := by kernel_rfl
theorem zr16 : zeroOf Tryz.prog 16 = some (.pointer none) := by kernel_rfl
theorem sz17 : szOf Tryz.prog 17 = some 1 := by kernel_rfl
theorem by17 : byOf Tryz.prog 17 = some 8 := by kernel_rfl
theorem ag17 : aggOf Tryz.prog 17 = some false := by kernel_rfl
theorem zr17 : zeroOf Tryz.prog 17 = some (.pointer none) := by kernel_rfl
theorem sz20 : szOf Tryz.prog 20 = some 1 := by kernel_rfl
theorem by20 : byOf Tryz.prog 20 = some 16 := by kernel_rfl
theorem ag20 : aggOf Tryz.prog 20 = some false := by kernel_rfl
theorem zr20 : zeroOf Tryz.prog 20 = some .nilIface := by kernel_rfl
theorem sz21 : szOf Tryz.prog 21 = some 1 := by kernel_rfl
theorem by21 : byOf Tryz.prog 21 = some 4 := by kernel_rfl
theorem ag21 : aggOf Tryz.prog 21 = some false := by kernel_rfl
theorem zr21 : zeroOf Tryz.prog 21 = some (.int .i32 0) := by kernel_rfl
theorem sz22 : szOf Tryz.prog 22 = some 1 := by kernel_rfl
theorem by22 : byOf Tryz.prog 22 = some 24 := by kernel_rfl
theorem ag22 : aggOf Tryz.prog 22 = some false := by kernel_rfl
theorem zr22 : zeroOf Tryz.prog 22 = some (.slice none 0 0) := by kernel_rfl
theorem sz23 : szOf Tryz.prog 23 = some 1 := by kernel_rfl
theorem by23 : byOf Tryz.prog 23 = some 24 := by kernel_rfl
theorem ag23 : aggOf Tryz.prog 23 = some false := by kernel_rfl
theorem zr23 : zeroOf Tryz.prog 23 = some (.slice none 0 0) := by kernel_rfl
theorem sz24 : szOf Tryz.prog 24 = some 1 := by kernel_rfl
theorem by24 : byOf Tryz.prog 24 = some 24 := by kernel_rfl
theorem ag24 : aggOf Tryz.prog 24 = some false := by kernel_rfl
theorem zr24 : zeroOf Tryz.prog 24 = some (.slice none 0 0) := by kernel_rfl
theorem sz26 : szOf Tryz.prog 26 = some 1 := by kernel_rfl
theorem by26 : byOf Tryz.prog 26 = some 8 := by kernel_rfl
theorem ag26 : aggOf Tryz.prog 26 = some false := by kernel_rfl
theorem zr26 : zeroOf Tryz.prog 26 = some .nilFunc := by kernel_rfl
theorem sz27 : szOf Tryz.prog 27 = some 1 := by kernel_rfl
theorem by27 : byOf Tryz.prog 27 = some 24 := by kernel_rfl
theorem ag27 : aggOf Tryz.prog 27 = some false := by kernel_rfl
theorem zr27 : zeroOf Tryz.prog 27 = some (.slice none 0 0) := by kernel_rfl
theorem sz28 : szOf Tryz.prog 28 = some 5 := by kernel_rfl
theorem by28 : byOf Tryz.prog 28 = some 40 := by kernel_rfl
theorem ag28 : aggOf Tryz.prog 28 = some true := by kernel_rfl
theorem eg28 : Tryz.prog.eqGuardType Tryz.prog.depth 28 = false := by kernel_rfl
theorem zr28 : zeroOf Tryz.prog 28 = some (.agg #[(.int .i64 0), (.int .i64 0), (.int .i64 0), (.int .i64 0), (.int .i64 0)]) := by kernel_rfl
theorem sz29 : szOf Tryz.prog 29 = some 5 := by kernel_rfl
theorem by29 : byOf Tryz.prog 29 = some 40 := by kernel_rfl
theorem ag29 : aggOf Tryz.prog 29 = some true := by kernel_rfl
theorem eg29 : Tryz.prog.eqGuardType Tryz.prog.depth 29 = false := by kernel_rfl
theorem zr29 : zeroOf Tryz.prog 29 = some (.agg #[(.int .i64 0), (.int .i64 0), (.int .i64 0), (.int .i64 0), (.int .i64 0)]) := by kernel_rfl
theorem sz30 : szOf Tryz.prog 30 = some 1 := by kernel_rfl
theorem by30 : byOf Tryz.prog 30 = some 8 := by kernel_rfl
theorem ag30 : aggOf Tryz.prog 30 = some false := by kernel_rfl
theorem zr30 : zeroOf Tryz.prog 30 = some .nilFunc := by kernel_rfl
theorem sz31 : szOf Tryz.prog 31 = some 1 := by kernel_rfl
theorem by31 : byOf Tryz.prog 31 = some 8 := by kernel_rfl
theorem ag31 : aggOf Tryz.prog 31 = some false := by kernel_rfl
theorem zr31 : zeroOf Tryz.prog 31 = some .nilFunc := by kernel_rfl
theorem sz32 : szOf Tryz.prog 32 = some 1 := by kernel_rfl
theorem by32 : byOf Tryz.prog 32 = some 8 := by kernel_rfl
theorem ag32 : aggOf Tryz.prog 32 = some false := by kernel_rfl
theorem zr32 : zeroOf Tryz.prog 32 = some .nilFunc := by kernel_rfl
theorem sz33 : szOf Tryz.prog 33 = some 5 := by kernel_rfl
theorem by33 : byOf Tryz.prog 33 = some 40 := by kernel_rfl
theorem ag33 : aggOf Tryz.prog 33 = some true := by kernel_rfl
theorem eg33 : Tryz.prog.eqGuardType Tryz.prog.depth 33 = false := by kernel_rfl
theorem si33 : Tryz.prog.stoodInHeld 33 = false := by kernel_rfl
theorem zr33 : zeroOf Tryz.prog 33 = some (.agg #[(.int .i64 0), (.int .i64 0), (.int .i64 0), (.int .i64 0), (.int .i64 0)]) := by kernel_rfl
theorem sz34 : szOf Tryz.prog 34 = some 5 := by kernel_rfl
theorem by34 : byOf Tryz.prog 34 = some 40 := by kernel_rfl
theorem ag34 : aggOf Tryz.prog 34 = some true := by kernel_rfl
theorem eg34 : Tryz.prog.eqGuardType Tryz.prog.depth 34 = false := by kernel_rfl
theorem si34 : Tryz.prog.stoodInHeld 34 = false := by kernel_rfl
theorem zr34 : zeroOf Tryz.prog 34 = some (.agg #[(.int .i64 0), (.int .i64 0), (.int .i64 0), (.int .i64 0), (.int .i64 0)]) := by kernel_rfl
theorem sz35 : szOf Tryz.prog 35 = some 1 := by kernel_rfl
theorem by35 : byOf Tryz.prog 35 = some 8 := by kernel_rfl
theorem ag35 : aggOf Tryz.prog 35 = some false := by kernel_rfl
theorem zr35 : zeroOf Tryz.prog 35 = some .nilFunc := by kernel_rfl
theorem sz36 : szOf Tryz.prog 36 = some 1 := by kernel_rfl
theorem by36 : byOf Tryz.prog 36 = some 8 := by kernel_rfl
theorem ag36 : aggOf Tryz.prog 36 = some false := by kernel_rfl
theorem zr36 : zeroOf Tryz.prog 36 = some .nilFunc := by kernel_rfl
theorem sz37 : szOf Tryz.prog 37 = some 1 := by kernel_rfl
theorem by37 : byOf Tryz.prog 37 = some 8 := by kernel_rfl
theorem ag37 : aggOf Tryz.prog 37 = some false := by kernel_rfl
theorem zr37 : zeroOf Tryz.prog 37 = some .nilFunc := by kernel_rfl
theorem sz38 : szOf Tryz.prog 38 = some 1 := by kernel_rfl
theorem by38 : byOf Tryz.prog 38 = some 8 := by kernel_rfl
theorem ag38 : aggOf Tryz.prog 38 = some false := by kernel_rfl
theorem zr38 : zeroOf Tryz.prog 38 = some .nilFunc := by kernel_rfl
theorem sz39 : szOf Tryz.prog 39 = some 1 := by kernel_rfl
theorem by39 : byOf Tryz.prog 39 = some 8 := by kernel_rfl
theorem ag39 : aggOf Tryz.prog 39 = some false := by kernel_rfl
theorem zr39 : zeroOf Tryz.prog 39 = some .nilFunc := by kernel_rfl
theorem sz40 : szOf Tryz.prog 40 = some 1 := by kernel_rfl
theorem by40 : byOf Tryz.prog 40 = some 8 := by kernel_rfl
theorem ag40 : aggOf Tryz.prog 40 = some false := by kernel_rfl
theorem zr40 : zeroOf Tryz.prog 40 = some .nilFunc := by kernel_rfl
theorem sz41 : szOf Tryz.prog 41 = some 1 := by kernel_rfl
theorem by41 : byOf Tryz.prog 41 = some 8 := by kernel_rfl
theorem ag41 : aggOf Tryz.prog 41 = some false := by kernel_rfl
theorem zr41 : zeroOf Tryz.prog 41 = some (.int .u64 0) := by kernel_rfl
theorem sz42 : szOf Tryz.prog 42 = some 3 := by kernel_rfl
theorem by42 : byOf Tryz.prog 42 = some 24 := by kernel_rfl
theorem ag42 : aggOf Tryz.prog 42 = some true := by kernel_rfl
theorem eg42 : Tryz.prog.eqGuardType Tryz.prog.depth 42 = false := by kernel_rfl
theorem zr42 : zeroOf Tryz.prog 42 = some (.agg #[(.int .i64 0), (.int .i64 0), (.int .i64 0)]) := by kernel_rfl
theorem sz43 : szOf Tryz.prog 43 = some 3 := by kernel_rfl
theorem by43 : byOf Tryz.prog 43 = some 24 := by kernel_rfl
theorem ag43 : aggOf Tryz.prog 43 = some true := by kernel_rfl
theorem eg43 : Tryz.prog.eqGuardType Tryz.prog.depth 43 = false := by kernel_rfl
theorem zr43 : zeroOf Tryz.prog 43 = some (.agg #[(.int .i64 0), (.int .i64 0), (.int .i64 0)]) := by kernel_rfl
theorem sz44 : szOf Tryz.prog 44 = some 10 := by kernel_rfl
theorem by44 : byOf Tryz.prog 44 = some 80 := by kernel_rfl
theorem ag44 : aggOf Tryz.prog 44 = some true := by kernel_rfl
theorem eg44 : Tryz.prog.eqGuardType Tryz.prog.depth 44 = false := by kernel_rfl
theorem si44 : Tryz.prog.stoodInHeld 44 = false := by kernel_rfl
theorem zr44 : zeroOf Tryz.prog 44 = some (.agg #[(.int .i64 0), (.int .i64 0), (.int .i64 0), (.int .i64 0), (.int .i64 0), (.int .i64 0), (.int .u64 0), (.int .i64 0), (.int .i64 0), (.int .i64 0)]) := by kernel_rfl
theorem sz45 : szOf Tryz.prog 45 = some 10 := by kernel_rfl
theorem by45 : byOf Tryz.prog 45 = some 80 := by kernel_rfl
theorem ag45 : aggOf Tryz.prog 45 = some true := by kernel_rfl
theorem eg45 : Tryz.prog.eqGuardType Tryz.prog.depth 45 = false := by kernel_rfl
theorem si45 : Tryz.prog.stoodInHeld 45 = false := by kernel_rfl
theorem zr45 : zeroOf Tryz.prog 45 = some (.agg #[(.int .i64 0), (.int .i64 0), (.int .i64 0), (.int .i64 0), (.int .i64 0), (.int .i64 0), (.int .u64 0), (.int .i64 0), (.int .i64 0), (.int .i64 0)]) := by kernel_rfl
theorem sz46 : szOf Tryz.prog 46 = some 1 := by kernel_rfl
theorem by46 : byOf Tryz.prog 46 = some 24 := by kernel_rfl
theorem ag46 : aggOf Tryz.prog 46 = some false := by kernel_rfl
theorem zr46 : zeroOf Tryz.prog 46 = some (.slice none 0 0) := by kernel_rfl
theorem sz47 : szOf Tryz.prog 47 = some 1 := by kernel_rfl
theorem by47 : byOf Tryz.prog 47 = some 24 := by kernel_rfl
theorem ag47 : aggOf Tryz.prog 47 = some false := by kernel_rfl
theorem zr47 : zeroOf Tryz.prog 47 = some (.slice none 0 0) := by kernel_rfl
theorem sz48 : szOf Tryz.prog 48 = some 1 := by kernel_rfl
theorem by48 : byOf Tryz.prog 48 = some 24 := by kernel_rfl
theorem ag48 : aggOf Tryz.prog 48 = some false := by kernel_rfl
theorem zr48 : zeroOf Tryz.prog 48 = some (.slice none 0 0) := by kernel_rfl
theorem sz49 : szOf Tryz.prog 49 = some 1 := by kernel_rfl
theorem by49 : byOf Tryz.prog 49 = some 24 := by kernel_rfl
theorem ag49 : aggOf Tryz.prog 49 = some false := by kernel_rfl
theorem zr49 : zeroOf Tryz.prog 49 = some (.slice none 0 0) := by kernel_rfl
theorem sz50 : szOf Tryz.prog 50 = some 17 := by kernel_rfl
theorem by50 : byOf Tryz.prog 50 = some 200 := by kernel_rfl
theorem ag50 : aggOf Tryz.prog 50 = some true := by kernel_rfl
theorem eg50 : Tryz.prog.eqGuardType Tryz.prog.depth 50 = false := by kernel_rfl
theorem si50 : Tryz.prog.stoodInHeld 50 = false := by kernel_rfl
theorem zr50 : zeroOf Tryz.prog 50 = some (.agg #[(.int .i64 0), (.int .i64 0), (.int .i64 0), (.int .i64 0), (.int .i64 0), (.int .i64 0), (.int .u64 0), (.int .i64 0), (.int .i64 0), (.int .i64 0), (.int .i64 0), (.int .i64 0), (.int .i64 0), (.slice none 0 0), (.slice none 0 0), (.slice none 0 0), (.slice none 0 0)]) := by kernel_rfl
theorem sz51 : szOf Tryz.prog 51 = some 17 := by kernel_rfl
theorem by51 : byOf Tryz.prog 51 = some 200 := by kernel_rfl
theorem ag51 : aggOf Tryz.prog 51 = some true := by kernel_rfl
theorem eg51 : Tryz.prog.eqGuardType Tryz.prog.depth 51 = false := by kernel_rfl
theorem si51 : Tryz.prog.stoodInHeld 51 = false := by kernel_rfl
theorem zr51 : zeroOf Tryz.prog 51 = some (.agg #[(.int .i64 0), (.int .i64 0), (.int .i64 0), (.int .i64 0), (.int .i64 0), (.int .i64 0), (.int .u64 0), (.int .i64 0), (.int .i64 0), (.int .i64 0), (.int .i64 0), (.int .i64 0), (.int .i64 0), (.slice none 0 0), (.slice none 0 0), (.slice none 0 0), (.slice none 0 0)]) := by kernel_rfl
theorem sz53 : szOf Tryz.prog 53 = some 1 := by kernel_rfl
theorem by53 : byOf Tryz.prog 53 = some 8 := by kernel_rfl
theorem ag53 : aggOf Tryz.prog 53 = some false := by kernel_rfl
theorem zr53 : zeroOf Tryz.prog 53 = some .nilFunc := by kernel_rfl
theorem sz54 : szOf Tryz.prog 54 = some 1 := by kernel_rfl
theorem by54 : byOf Tryz.prog 54 = some 8 := by kernel_rfl
theorem ag54 : aggOf Tryz.prog 54 = some false := by kernel_rfl
theorem zr54 : zeroOf Tryz.prog 54 = some .nilFunc := by kernel_rfl
theorem sz55 : szOf Tryz.prog 55 = some 1 := by kernel_rfl
theorem by55 : byOf Tryz.prog 55 = some 8 := by kernel_rfl
theorem ag55 : aggOf Tryz.prog 55 = some false := by kernel_rfl
theorem zr55 : zeroOf Tryz.prog 55 = some (.int .i64 0) := by kernel_rfl
theorem sz57 : szOf Tryz.prog 57 = some 1 := by kernel_rfl
theorem by57 : byOf Tryz.prog 57 = some 8 := by kernel_rfl
theorem ag57 : aggOf Tryz.prog 57 = some false := by kernel_rfl
theorem zr57 : zeroOf Tryz.prog 57 = some .nilFunc := by kernel_rfl
theorem sz58 : szOf Tryz.prog 58 = some 1 := by kernel_rfl
theorem by58 : byOf Tryz.prog 58 = some 8 := by kernel_rfl
theorem ag58 : aggOf Tryz.prog 58 = some false := by kernel_rfl
theorem zr58 : zeroOf Tryz.prog 58 = some (.int .i64 0) := by kernel_rfl
theorem sz59 : szOf Tryz.prog 59 = some 3 := by kernel_rfl
theorem by59 : byOf Tryz.prog 59 = some 24 := by kernel_rfl
theorem ag59 : aggOf Tryz.prog 59 = some true := by kernel_rfl
theorem eg59 : Tryz.prog.eqGuardType Tryz.prog.depth 59 = false := by kernel_rfl
theorem si59 : Tryz.prog.stoodInHeld 59 = false := by kernel_rfl
theorem zr59 : zeroOf Tryz.prog 59 = some (.agg #[(.int .i64 0), (.int .i64 0), (.int .i64 0)]) := by kernel_rfl
theorem sz60 : szOf Tryz.prog 60 = some 3 := by kernel_rfl
theorem by60 : byOf Tryz.prog 60 = some 24 := by kernel_rfl
theorem ag60 : aggOf Tryz.prog 60 = some true := by kernel_rfl
theorem eg60 : Tryz.prog.eqGuardType Tryz.prog.depth 60 = false := by kernel_rfl
theorem si60 : Tryz.prog.stoodInHeld 60 = false := by kernel_rfl
theorem zr60 : zeroOf Tryz.prog 60 = some (.agg #[(.int .i64 0), (.int .i64 0), (.int .i64 0)]) := by kernel_rfl
theorem sz61 : szOf Tryz.prog 61 = some 10 := by kernel_rfl
theorem by61 : byOf Tryz.prog 61 = some 80 := by kernel_rfl
theorem ag61 : aggOf Tryz.prog 61 = some true := by kernel_rfl
theorem eg61 : Tryz.prog.eqGuardType Tryz.prog.depth 61 = false := by kernel_rfl
theorem si61 : Tryz.prog.stoodInHeld 61 = false := by kernel_rfl
theorem zr61 : zeroOf Tryz.prog 61 = some (.agg #[(.int .i64 0), (.int .i64 0), (.int .i64 0), (.int .i64 0), (.int .i64 0), (.int .i64 0), (.int .u64 0), (.int .i64 0), (.int .i64 0), (.int .i64 0)]) := by kernel_rfl
theorem sz62 : szOf Tryz.prog 62 = some 10 := by kernel_rfl
theorem by62 : byOf Tryz.prog 62 = some 80 := by kernel_rfl
theorem ag62 : aggOf Tryz.prog 62 = some true := by kernel_rfl
theorem eg62 : Tryz.prog.eqGuardType Tryz.prog.depth 62 = false := by kernel_rfl
theorem si62 : Tryz.prog.stoodInHeld 62 = false := by kernel_rfl
theorem zr62 : zeroOf Tryz.prog 62 = some (.agg #[(.int .i64 0), (.int .i64 0), (.int .i64 0), (.int .i64 0), (.int .i64 0), (.int .i64 0), (.int .u64 0), (.int .i64 0), (.int .i64 0), (.int .i64 0)]) := by kernel_rfl
theorem sz63 : szOf Tryz.prog 63 = some 3 := by kernel_rfl
theorem by63 : byOf Tryz.prog 63 = some 24 := by kernel_rfl
theorem ag63 : aggOf Tryz.prog 63 = some true := by kernel_rfl
theorem eg63 : Tryz.prog.eqGuardType Tryz.prog.depth 63 = false := by kernel_rfl
theorem si63 : Tryz.prog.stoodInHeld 63 = false := by kernel_rfl
theorem zr63 : zeroOf Tryz.prog 63 = some (.agg #[(.int .i64 0), (.int .i64 0), (.int .i64 0)]) := by kernel_rfl
theorem sz64 : szOf Tryz.prog 64 = some 3 := by kernel_rfl
theorem by64 : byOf Tryz.prog 64 = some 24 := by kernel_rfl
theorem ag64 : aggOf Tryz.prog 64 = some true := by kernel_rfl
theorem eg64 : Tryz.prog.eqGuardType Tryz.prog.depth 64 = false := by kernel_rfl
theorem si64 : Tryz.prog.stoodInHeld 64 = false := by kernel_rfl
theorem zr64 : zeroOf Tryz.prog 64 = some (.agg #[(.int .i64 0), (.int .i64 0), (.int .i64 0)]) := by kernel_rfl
theorem sz65 : szOf Tryz.prog 65 = some 1 := by kernel_rfl
theorem by65 : byOf Tryz.prog 65 = some 24 := by kernel_rfl
theorem ag65 : aggOf Tryz.prog 65 = some false := by kernel_rfl
theorem zr65 : zeroOf Tryz.prog 65 = some (.slice none 0 0) := by kernel_rfl
theorem sz66 : szOf Tryz.prog 66 = some 1 := by kernel_rfl
theorem by66 : byOf Tryz.prog 66 = some 24 := by kernel_rfl
theorem ag66 : aggOf Tryz.prog 66 = some false := by kernel_rfl
theorem zr66 : zeroOf Tryz.prog 66 = some (.slice none 0 0) := by kernel_rfl
theorem sz67 : szOf Tryz.prog 67 = some 1 := by kernel_rfl
theorem by67 : byOf Tryz.prog 67 = some 24 := by kernel_rfl
theorem ag67 : aggOf Tryz.prog 67 = some false := by kernel_rfl
theorem zr67 : zeroOf Tryz.prog 67 = some (.slice none 0 0) := by kernel_rfl
theorem sz68 : szOf Tryz.prog 68 = some 1 := by kernel_rfl
theorem by68 : byOf Tryz.prog 68 = some 24 := by kernel_rfl
theorem ag68 : aggOf Tryz.prog 68 = some false := by kernel_rfl
theorem zr68 : zeroOf Tryz.prog 68 = some (.slice none 0 0) := by kernel_rfl
theorem sz69 : szOf Tryz.prog 69 = some 17 := by kernel_rfl
theorem by69 : byOf Tryz.prog 69 = some 200 := by kernel_rfl
theorem ag69 : aggOf Tryz.prog 69 = some true := by kernel_rfl
theorem eg69 : Tryz.prog.eqGuardType Tryz.prog.depth 69 = false := by kernel_rfl
theorem si69 : Tryz.prog.stoodInHeld 69 = false := by kernel_rfl
theorem zr69 : zeroOf Tryz.prog 69 = some (.agg #[(.int .i64 0), (.int .i64 0), (.int .i64 0), (.int .i64 0), (.int .i64 0), (.int .i64 0), (.int .u64 0), (.int .i64 0), (.int .i64 0), (.int .i64 0), (.int .i64 0), (.int .i64 0), (.int .i64 0), (.slice none 0 0), (.slice none 0 0), (.slice none 0 0), (.slice none 0 0)]) := by kernel_rfl
theorem sz70 : szOf Tryz.prog 70 = some 17 := by kernel_rfl
theorem by70 : byOf Tryz.prog 70 = some 200 := by kernel_rfl
theorem ag70 : aggOf Tryz.prog 70 = some true := by kernel_rfl
theorem eg70 : Tryz.prog.eqGuardType Tryz.prog.depth 70 = false := by kernel_rfl
theorem si70 : Tryz.prog.stoodInHeld 70 = false := by kernel_rfl
theorem zr70 : zeroOf Tryz.prog 70 = some (.agg #[(.int .i64 0), (.int .i64 0), (.int .i64 0), (.int .i64 0), (.int .i64 0), (.int .i64 0), (.int .u64 0), (.int .i64 0), (.int .i64 0), (.int .i64 0), (.int .i64 0), (.int .i64 0), (.int .i64 0), (.slice none 0 0), (.slice none 0 0), (.slice none 0 0), (.slice none 0 0)]) := by kernel_rfl
theorem sz71 : szOf Tryz.prog 71 = some 1 := by kernel_rfl
theorem by71 : byOf Tryz.prog 71 = some 8 := by kernel_rfl
theorem ag71 : aggOf Tryz.prog 71 = some false := by kernel_rfl
theorem zr71 : zeroOf Tryz.prog 71 = some .nilFunc := by kernel_rfl
theorem sz72 : szOf Tryz.prog 72 = some 1 := by kernel_rfl
theorem by72 : byOf Tryz.prog 72 = some 8 := by kernel_rfl
theorem ag72 : aggOf Tryz.prog 72 = some false := by kernel_rfl
theorem zr72 : zeroOf Tryz.prog 72 = some .nilFunc := by kernel_rfl
theorem sz73 : szOf Tryz.prog 73 = some 1 := by kernel_rfl
theorem by73 : byOf Tryz.prog 73 = some 24 := by kernel_rfl
theorem ag73 : aggOf Tryz.prog 73 = some false := by kernel_rfl
theorem zr73 : zeroOf Tryz.prog 73 = some (.slice none 0 0) := by kernel_rfl
theorem sz74 : szOf Tryz.prog 74 = some 2 := by kernel_rfl
theorem by74 : byOf Tryz.prog 74 = some 32 := by kernel_rfl
theorem ag74 : aggOf Tryz.prog 74 = some true := by kernel_rfl
theorem eg74 : Tryz.prog.eqGuardType Tryz.prog.depth 74 = false := by kernel_rfl
theorem si74 : Tryz.prog.stoodInHeld 74 = false := by kernel_rfl
theorem zr74 : zeroOf Tryz.prog 74 = some (.agg #[(.int .i64 0), (.slice none 0 0)]) := by kernel_rfl
theorem sz75 : szOf Tryz.prog 75 = some 2 := by kernel_rfl
theorem by75 : byOf Tryz.prog 75 = some 32 := by kernel_rfl
theorem ag75 : aggOf Tryz.prog 75 = some true := by kernel_rfl
theorem eg75 : Tryz.prog.eqGuardType Tryz.prog.depth 75 = false := by kernel_rfl
theorem si75 : Tryz.prog.stoodInHeld 75 = false := by kernel_rfl
theorem zr75 : zeroOf Tryz.prog 75 = some (.agg #[(.int .i64 0), (.slice none 0 0)]) := by kernel_rfl
theorem sz76 : szOf Tryz.prog 76 = some 1 := by kernel_rfl
theorem by76 : byOf Tryz.prog 76 = some 8 := by kernel_rfl
theorem ag76 : aggOf Tryz.prog 76 = some false := by kernel_rfl
theorem zr76 : zeroOf Tryz.prog 76 = some .nilFunc := by kernel_rfl
theorem sz77 : szOf Tryz.prog 77 = some 3 := by kernel_rfl
theorem by77 : byOf Tryz.prog 77 = some 24 := by kernel_rfl
theorem ag77 : aggOf Tryz.prog 77 = some true := by kernel_rfl
theorem eg77 : Tryz.prog.eqGuardType Tryz.prog.depth 77 = false := by kernel_rfl
theorem si77 : Tryz.prog.stoodInHeld 77 = false := by kernel_rfl
theorem zr77 : zeroOf Tryz.prog 77 = some (.agg #[(.int .i64 0), (.int .i64 0), (.int .i64 0)]) := by kernel_rfl
theorem sz78 : szOf Tryz.prog 78 = some 3 := by kernel_rfl
theorem by78 : byOf Tryz.prog 78 = some 24 := by kernel_rfl
theorem ag78 : aggOf Tryz.prog 78 = some true := by kernel_rfl
theorem eg78 : Tryz.prog.eqGuardType Tryz.prog.depth 78 = false := by kernel_rfl
theorem si78 : Tryz.prog.stoodInHeld 78 = false := by kernel_rfl
theorem zr78 : zeroOf Tryz.prog 78 = some (.agg #[(.int .i64 0), (.int .i64 0), (.int .i64 0)]) := by kernel_rfl
theorem sz79 : szOf Tryz.prog 79 = some 1 := by kernel_rfl
theorem by79 : byOf Tryz.prog 79 = some 8 := by kernel_rfl
theorem ag79 : aggOf Tryz.prog 79 = some false := by kernel_rfl
theorem zr79 : zeroOf Tryz.prog 79 = some .nilFunc := by kernel_rfl
theorem sz80 : szOf Tryz.prog 80 = some 1 := by kernel_rfl
theorem by80 : byOf Tryz.prog 80 = some 8 := by kernel_rfl
theorem ag80 : aggOf Tryz.prog 80 = some false := by kernel_rfl
theorem zr80 : zeroOf Tryz.prog 80 = some .nilFunc := by kernel_rfl
theorem sz81 : szOf Tryz.prog 81 = some 1 := by kernel_rfl
theorem by81 : byOf Tryz.prog 81 = some 24 := by kernel_rfl
theorem ag81 : aggOf Tryz.prog 81 = some false := by kernel_rfl
theorem zr81 : zeroOf Tryz.prog 81 = some (.slice none 0 0) := by kernel_rfl
theorem sz82 : szOf Tryz.prog 82 = some 1 := by kernel_rfl
theorem by82 : byOf Tryz.prog 82 = some 8 := by kernel_rfl
theorem ag82 : aggOf Tryz.prog 82 = some false := by kernel_rfl
theorem zr82 : zeroOf Tryz.prog 82 = some .nilFunc := by kernel_rfl
theorem sz83 : szOf Tryz.prog 83 = some 1 := by kernel_rfl
theorem by83 : byOf Tryz.prog 83 = some 8 := by kernel_rfl
theorem ag83 : aggOf Tryz.prog 83 = some false := by kernel_rfl
theorem zr83 : zeroOf Tryz.prog 83 = some .nilFunc := by kernel_rfl
theorem sz84 : szOf Tryz.prog 84 = some 1 := by kernel_rfl
theorem by84 : byOf Tryz.prog 84 = some 8 := by kernel_rfl
theorem ag84 : aggOf Tryz.prog 84 = some false := by kernel_rfl
theorem zr84 : zeroOf Tryz.prog 84 = some .nilFunc := by kernel_rfl
theorem sz85 : szOf Tryz.prog 85 = some 1 := by kernel_rfl
theorem by85 : byOf Tryz.prog 85 = some 8 := by kernel_rfl
theorem ag85 : aggOf Tryz.prog 85 = some false := by kernel_rfl
theorem zr85 : zeroOf Tryz.prog 85 = some .nilFunc := by kernel_rfl
theorem sz86 : szOf Tryz.prog 86 = some 1 := by kernel_rfl
theorem by86 : byOf Tryz.prog 86 = some 8 := by kernel_rfl
theorem ag86 : aggOf Tryz.prog 86 = some false := by kernel_rfl
theorem zr86 : zeroOf Tryz.prog 86 = some .nilFunc := by kernel_rfl
theorem sz87 : szOf Tryz.prog 87 = some 1 := by kernel_rfl
theorem by87 : byOf Tryz.prog 87 = some 8 := by kernel_rfl
theorem ag87 : aggOf Tryz.prog 87 = some false := by kernel_rfl
theorem zr87 : zeroOf Tryz.prog 87 = some .nilFunc := by kernel_rfl
theorem sz88 : szOf Tryz.prog 88 = some 5 := by kernel_rfl
theorem by88 : byOf Tryz.prog 88 = some 40 := by kernel_rfl
theorem ag88 : aggOf Tryz.prog 88 = some true := by kernel_rfl
theorem eg88 : Tryz.prog.eqGuardType Tryz.prog.depth 88 = false := by kernel_rfl
theorem si88 : Tryz.prog.stoodInHeld 88 = false := by kernel_rfl
theorem zr88 : zeroOf Tryz.prog 88 = some (.agg #[(.int .i64 0), (.int .i64 0), (.int .i64 0), (.int .i64 0), (.int .i64 0)]) := by kernel_rfl
theorem sz89 : szOf Tryz.prog 89 = some 5 := by kernel_rfl
theorem by89 : byOf Tryz.prog 89 = some 40 := by kernel_rfl
theorem ag89 : aggOf Tryz.prog 89 = some true := by kernel_rfl
theorem eg89 : Tryz.prog.eqGuardType Tryz.prog.depth 89 = false := by kernel_rfl
theorem si89 : Tryz.prog.stoodInHeld 89 = false := by kernel_rfl
theorem zr89 : zeroOf Tryz.prog 89 = some (.agg #[(.int .i64 0), (.int .i64 0), (.int .i64 0), (.int .i64 0), (.int .i64 0)]) := by kernel_rfl
theorem sz90 : szOf Tryz.prog 90 = some 1 := by kernel_rfl
theorem by90 : byOf Tryz.prog 90 = some 8 := by kernel_rfl
theorem ag90 : aggOf Tryz.prog 90 = some false := by kernel_rfl
theorem zr90 : zeroOf Tryz.prog 90 = some .nilFunc := by kernel_rfl
theorem sz91 : szOf Tryz.prog 91 = some 1 := by kernel_rfl
theorem by91 : byOf Tryz.prog 91 = some 24 := by kernel_rfl
theorem ag91 : aggOf Tryz.prog 91 = some false := by kernel_rfl
theorem zr91 : zeroOf Tryz.prog 91 = some (.slice none 0 0) := by kernel_rfl
theorem sz92 : szOf Tryz.prog 92 = some 2 := by kernel_rfl
theorem by92 : byOf Tryz.prog 92 = some 32 := by kernel_rfl
theorem ag92 : aggOf Tryz.prog 92 = some true := by kernel_rfl
theorem eg92 : Tryz.prog.eqGuardType Tryz.prog.depth 92 = false := by kernel_rfl
theorem si92 : Tryz.prog.stoodInHeld 92 = false := by kernel_rfl
theorem zr92 : zeroOf Tryz.prog 92 = some (.agg #[(.int .i64 0), (.slice none 0 0)]) := by kernel_rfl
theorem sz93 : szOf Tryz.prog 93 = some 2 := by kernel_rfl
theorem by93 : byOf Tryz.prog 93 = some 32 := by kernel_rfl
theorem ag93 : aggOf Tryz.prog 93 = some true := by kernel_rfl
theorem eg93 : Tryz.prog.eqGuardType Tryz.prog.depth 93 = false := by kernel_rfl
theorem si93 : Tryz.prog.stoodInHeld 93 = false := by kernel_rfl
theorem zr93 : zeroOf Tryz.prog 93 = some (.agg #[(.int .i64 0), (.slice none 0 0)]) := by kernel_rfl
theorem sz94 : szOf Tryz.prog 94 = some 1 := by kernel_rfl
theorem by94 : byOf Tryz.prog 94 = some 8 := by kernel_rfl
theorem ag94 : aggOf Tryz.prog 94 = some false := by kernel_rfl
theorem zr94 : zeroOf Tryz.prog 94 = some .nilFunc := by kernel_rfl
theorem sz95 : szOf Tryz.prog 95 = some 1 := by kernel_rfl
theorem by95 : byOf Tryz.prog 95 = some 8 := by kernel_rfl
theorem ag95 : aggOf Tryz.prog 95 = some false := by kernel_rfl
theorem zr95 : zeroOf Tryz.prog 95 = some .nilFunc := by kernel_rfl
theorem sz96 : szOf Tryz.prog 96 = some 3 := by kernel_rfl
theorem by96 : byOf Tryz.prog 96 = some 24 := by kernel_rfl
theorem ag96 : aggOf Tryz.prog 96 = some true := by kernel_rfl
theorem eg96 : Tryz.prog.eqGuardType Tryz.prog.depth 96 = false := by kernel_rfl
theorem zr96 : zeroOf Tryz.prog 96 = some (.agg #[(.int .i64 0), (.int .i64 0), (.int .i64 0)]) := by kernel_rfl
theorem sz97 : szOf Tryz.prog 97 = some 9 := by kernel_rfl
theorem by97 : byOf Tryz.prog 97 = some 72 := by kernel_rfl
theorem ag97 : aggOf Tryz.prog 97 = some true := by kernel_rfl
theorem eg97 : Tryz.prog.eqGuardType Tryz.prog.depth 97 = false := by kernel_rfl
theorem zr97 : zeroOf Tryz.prog 97 = some (.agg #[(.int .i64 0), (.int .i64 0), (.int .i64 0), (.int .i64 0), (.int .i64 0), (.int .i64 0), (.int .i64 0), (.int .i64 0), (.int .i64 0)]) := by kernel_rfl
theorem sz98 : szOf Tryz.prog 98 = some 13 := by kernel_rfl
theorem by98 : byOf Tryz.prog 98 = some 104 := by kernel_rfl
theorem ag98 : aggOf Tryz.prog 98 = some true := by kernel_rfl
theorem eg98 : Tryz.prog.eqGuardType Tryz.prog.depth 98 = false := by kernel_rfl
theorem si98 : Tryz.prog.stoodInHeld 98 = false := by kernel_rfl
theorem zr98 : zeroOf Tryz.prog 98 = some (.agg #[(.int .i64 0), (.int .i64 0), (.int .i64 0), (.int .i64 0), (.int .i64 0), (.int .i64 0), (.int .i64 0), (.int .i64 0), (.int .i64 0), (.int .i64 0), (.int .i64 0), (.int .i64 0), (.int .i64 0)]) := by kernel_rfl
theorem sz99 : szOf Tryz.prog 99 = some 13 := by kernel_rfl
theorem by99 : byOf Tryz.prog 99 = some 104 := by kernel_rfl
theorem ag99 : aggOf Tryz.prog 99 = some true := by kernel_rfl
theorem eg99 : Tryz.prog.eqGuardType Tryz.prog.depth 99 = false := by kernel_rfl
theorem si99 : Tryz.prog.stoodInHeld 99 = false := by kernel_rfl
theorem zr99 : zeroOf Tryz.prog 99 = some (.agg #[(.int .i64 0), (.int .i64 0), (.int .i64 0), (.int .i64 0), (.int .i64 0), (.int .i64 0), (.int .i64 0), (.int .i64 0), (.int .i64 0), (.int .i64 0), (.int .i64 0), (.int .i64 0), (.int .i64 0)]) := by kernel_rfl
theorem sz100 : szOf Tryz.prog 100 = some 1 := by kernel_rfl
theorem by100 : byOf Tryz.prog 100 = some 8 := by kernel_rfl
theorem ag100 : aggOf Tryz.prog 100 = some false := by kernel_rfl
theorem zr100 : zeroOf Tryz.prog 100 = some .nilFunc := by kernel_rfl
theorem sz102 : szOf Tryz.prog 102 = some 1 := by kernel_rfl
theorem by102 : byOf Tryz.prog 102 = some 8 := by kernel_rfl
theorem ag102 : aggOf Tryz.prog 102 = some false := by kernel_rfl
theorem zr102 : zeroOf Tryz.prog 102 = some .nilFunc := by kernel_rfl
theorem sz103 : szOf Tryz.prog 103 = some 1 := by kernel_rfl
theorem by103 : byOf Tryz.prog 103 = some 8 := by kernel_rfl
theorem ag103 : aggOf Tryz.prog 103 = some false := by kernel_rfl
theorem zr103 : zeroOf Tryz.prog 103 = some .nilFunc := by kernel_rfl
theorem sz104 : szOf Tryz.prog 104 = some 1 := by kernel_rfl
theorem by104 : byOf Tryz.prog 104 = some 8 := by kernel_rfl
theorem ag104 : aggOf Tryz.prog 104 = some false := by kernel_rfl
theorem zr104 : zeroOf Tryz.prog 104 = some .nilFunc := by kernel_rfl
theorem sz105 : szOf Tryz.prog 105 = some 1 := by kernel_rfl
theorem by105 : byOf Tryz.prog 105 = some 8 := by kernel_rfl
theorem ag105 : aggOf Tryz.prog 105 = some false := by kernel_rfl
theorem zr105 : zeroOf Tryz.prog 105 = some .nilFunc := by kernel_rfl
theorem sz106 : szOf Tryz.prog 106 = some 5 := by kernel_rfl
theorem by106 : byOf Tryz.prog 106 = some 40 := by kernel_rfl
theorem ag106 : aggOf Tryz.prog 106 = some true := by kernel_rfl
theorem eg106 : Tryz.prog.eqGuardType Tryz.prog.depth 106 = false := by kernel_rfl
theorem si106 : Tryz.prog.stoodInHeld 106 = false := by kernel_rfl
theorem zr106 : zeroOf Tryz.prog 106 = some (.agg #[(.int .i64 0), (.int .i64 0), (.int .i64 0), (.int .i64 0), (.int .i64 0)]) := by kernel_rfl
theorem sz107 : szOf Tryz.prog 107 = some 5 := by kernel_rfl
theorem by107 : byOf Tryz.prog 107 = some 40 := by kernel_rfl
theorem ag107 : aggOf Tryz.prog 107 = some true := by kernel_rfl
theorem eg107 : Tryz.prog.eqGuardType Tryz.prog.depth 107 = false := by kernel_rfl
theorem si107 : Tryz.prog.stoodInHeld 107 = false := by kernel_rfl
theorem zr107 : zeroOf Tryz.prog 107 = some (.agg #[(.int .i64 0), (.int .i64 0), (.int .i64 0), (.int .i64 0), (.int .i64 0)]) := by kernel_rfl
theorem sz108 : szOf Tryz.prog 108 = some 1 := by kernel_rfl
theorem by108 : byOf Tryz.prog 108 = some 8 := by kernel_rfl
theorem ag108 : aggOf Tryz.prog 108 = some false := by kernel_rfl
theorem zr108 : zeroOf Tryz.prog 108 = some .nilFunc := by kernel_rfl
theorem sz109 : szOf Tryz.prog 109 = some 4 := by kernel_rfl
theorem by109 : byOf Tryz.prog 109 = some 32 := by kernel_rfl
theorem ag109 : aggOf Tryz.prog 109 = some true := by kernel_rfl
theorem eg109 : Tryz.prog.eqGuardType Tryz.prog.depth 109 = false := by kernel_rfl
theorem si109 : Tryz.prog.stoodInHeld 109 = false := by kernel_rfl
theorem zr109 : zeroOf Tryz.prog 109 = some (.agg #[(.int .i64 0), (.int .i64 0), (.int .i64 0), (.int .i64 0)]) := by kernel_rfl
theorem sz110 : szOf Tryz.prog 110 = some 4 := by kernel_rfl
theorem by110 : byOf Tryz.prog 110 = some 32 := by kernel_rfl
theorem ag110 : aggOf Tryz.prog 110 = some true := by kernel_rfl
theorem eg110 : Tryz.prog.eqGuardType Tryz.prog.depth 110 = false := by kernel_rfl
theorem si110 : Tryz.prog.stoodInHeld 110 = false := by kernel_rfl
theorem zr110 : zeroOf Tryz.prog 110 = some (.agg #[(.int .i64 0), (.int .i64 0), (.int .i64 0), (.int .i64 0)]) := by kernel_rfl
theorem sz111 : szOf Tryz.prog 111 = some 4 := by kernel_rfl
theorem by111 : byOf Tryz.prog 111 = some 32 := by kernel_rfl
theorem ag111 : aggOf Tryz.prog 111 = some true := by kernel_rfl
theorem eg111 : Tryz.prog.eqGuardType Tryz.prog.depth 111 = false := by kernel_rfl
theorem si111 : Tryz.prog.stoodInHeld 111 = false := by kernel_rfl
theorem zr111 : zeroOf Tryz.prog 111 = some (.agg #[(.int .i64 0), (.int .i64 0), (.int .i64 0), (.int .i64 0)]) := by kernel_rfl
theorem sz112 : szOf Tryz.prog 112 = some 4 := by kernel_rfl
theorem by112 : byOf Tryz.prog 112 = some 32 := by kernel_rfl
theorem ag112 : aggOf Tryz.prog 112 = some true := by kernel_rfl
theorem eg112 : Tryz.prog.eqGuardType Tryz.prog.depth 112 = false := by kernel_rfl
theorem si112 : Tryz.prog.stoodInHeld 112 = false := by kernel_rfl
theorem zr112 : zeroOf Tryz.prog 112 = some (.agg #[(.int .i64 0), (.int .i64 0), (.int .i64 0), (.int .i64 0)]) := by kernel_rfl
theorem sz113 : szOf Tryz.prog 113 = some 2 := by kernel_rfl
theorem by113 : byOf Tryz.prog 113 = some 16 := by kernel_rfl
theorem ag113 : aggOf Tryz.prog 113 = some true := by kernel_rfl
theorem eg113 : Tryz.prog.eqGuardType Tryz.prog.depth 113 = false := by kernel_rfl
theorem si113 : Tryz.prog.stoodInHeld 113 = false := by kernel_rfl
theorem zr113 : zeroOf Tryz.prog 113 = some (.agg #[(.int .i64 0), (.int .i64 0)]) := by kernel_rfl
theorem sz114 : szOf Tryz.prog 114 = some 2 := by kernel_rfl
theorem by114 : byOf Tryz.prog 114 = some 16 := by kernel_rfl
theorem ag114 : aggOf Tryz.prog 114 = some true := by kernel_rfl
theorem eg114 : Tryz.prog.eqGuardType Tryz.prog.depth 114 = false := by kernel_rfl
theorem si114 : Tryz.prog.stoodInHeld 114 = false := by kernel_rfl
theorem zr114 : zeroOf Tryz.prog 114 = some (.agg #[(.int .i64 0), (.int .i64 0)]) := by kernel_rfl
theorem sz115 : szOf Tryz.prog 115 = some 1 := by kernel_rfl
theorem by115 : byOf Tryz.prog 115 = some 8 := by kernel_rfl
theorem ag115 : aggOf Tryz.prog 115 = some false := by kernel_rfl
theorem zr115 : zeroOf Tryz.prog 115 = some .nilFunc := by kernel_rfl
theorem sz116 : szOf Tryz.prog 116 = some 13 := by kernel_rfl
theorem by116 : byOf Tryz.prog 116 = some 104 := by kernel_rfl
theorem ag116 : aggOf Tryz.prog 116 = some true := by kernel_rfl
theorem eg116 : Tryz.prog.eqGuardType Tryz.prog.depth 116 = false := by kernel_rfl
theorem si116 : Tryz.prog.stoodInHeld 116 = false := by kernel_rfl
theorem zr116 : zeroOf Tryz.prog 116 = some (.agg #[(.int .i64 0), (.int .i64 0), (.int .i64 0), (.int .i64 0), (.int .i64 0), (.int .i64 0), (.int .i64 0), (.int .i64 0), (.int .i64 0), (.int .i64 0), (.int .i64 0), (.int .i64 0), (.int .i64 0)]) := by kernel_rfl
theorem sz117 : szOf Tryz.prog 117 = some 13 := by kernel_rfl
theorem by117 : byOf Tryz.prog 117 = some 104 := by kernel_rfl
theorem ag117 : aggOf Tryz.prog 117 = some true := by kernel_rfl
theorem eg117 : Tryz.prog.eqGuardType Tryz.prog.depth 117 = false := by kernel_rfl
theorem si117 : Tryz.prog.stoodInHeld 117 = false := by kernel_rfl
theorem zr117 : zeroOf Tryz.prog 117 = some (.agg #[(.int .i64 0), (.int .i64 0), (.int .i64 0), (.int .i64 0), (.int .i64 0), (.int .i64 0), (.int .i64 0), (.int .i64 0), (.int .i64 0), (.int .i64 0), (.int .i64 0), (.int .i64 0), (.int .i64 0)]) := by kernel_rfl
theorem sz118 : szOf Tryz.prog 118 = some 4 := by kernel_rfl
theorem by118 : byOf Tryz.prog 118 = some 32 := by kernel_rfl
theorem ag118 : aggOf Tryz.prog 118 = some true := by kernel_rfl
theorem eg118 : Tryz.prog.eqGuardType Tryz.prog.depth 118 = false := by kernel_rfl
theorem si118 : Tryz.prog.stoodInHeld 118 = false := by kernel_rfl
theorem zr118 : zeroOf Tryz.prog 118 = some (.agg #[(.int .i64 0), (.int .i64 0), (.int .i64 0), (.int .i64 0)]) := by kernel_rfl
theorem sz119 : szOf Tryz.prog 119 = some 4 := by kernel_rfl
theorem by119 : byOf Tryz.prog 119 = some 32 := by kernel_rfl
theorem ag119 : aggOf Tryz.prog 119 = some true := by kernel_rfl
theorem eg119 : Tryz.prog.eqGuardType Tryz.prog.depth 119 = false := by kernel_rfl
theorem si119 : Tryz.prog.stoodInHeld 119 = false := by kernel_rfl
theorem zr119 : zeroOf Tryz.prog 119 = some (.agg #[(.int .i64 0), (.int .i64 0), (.int .i64 0), (.int .i64 0)]) := by kernel_rfl
theorem sz120 : szOf Tryz.prog 120 = some 1 := by kernel_rfl
theorem by120 : byOf Tryz.prog 120 = some 8 := by kernel_rfl
theorem ag120 : aggOf Tryz.prog 120 = some false := by kernel_rfl
theorem zr120 : zeroOf Tryz.prog 120 = some .nilFunc := by kernel_rfl
theorem sz121 : szOf Tryz.prog 121 = some 1 := by kernel_rfl
theorem by121 : byOf Tryz.prog 121 = some 8 := by kernel_rfl
theorem ag121 : aggOf Tryz.prog 121 = some false := by kernel_rfl
theorem zr121 : zeroOf Tryz.prog 121 = some .nilFunc := by kernel_rfl
theorem sz122 : szOf Tryz.prog 122 = some 1 := by kernel_rfl
theorem by122 : byOf Tryz.prog 122 = some 8 := by kernel_rfl
theorem ag122 : aggOf Tryz.prog 122 = some false := by kernel_rfl
theorem zr122 : zeroOf Tryz.prog 122 = some .nilFunc := by kernel_rfl
theorem sz123 : szOf Tryz.prog 123 = some 1 := by kernel_rfl
theorem by123 : byOf Tryz.prog 123 = some 8 := by kernel_rfl
theorem ag123 : aggOf Tryz.prog 123 = some false := by kernel_rfl
theorem zr123 : zeroOf Tryz.prog 123 = some .nilFunc := by kernel_rfl
theorem sz124 : szOf Tryz.prog 124 = some 1 := by kernel_rfl
theorem by124 : byOf Tryz.prog 124 = some 8 := by kernel_rfl
theorem ag124 : aggOf Tryz.prog 124 = some false := by kernel_rfl
theorem zr124 : zeroOf Tryz.prog 124 = some (.int .u64 0) := by kernel_rfl
theorem sz125 : szOf Tryz.prog 125 = some 1 := by kernel_rfl
theorem by125 : byOf Tryz.prog 125 = some 8 := by kernel_rfl
theorem ag125 : aggOf Tryz.prog 125 = some false := by kernel_rfl
theorem zr125 : zeroOf Tryz.prog 125 = some .nilFunc := by kernel_rfl
theorem sz126 : szOf Tryz.prog 126 = some 1 := by kernel_rfl
theorem by126 : byOf Tryz.prog 126 = some 8 := by kernel_rfl
theorem ag126 : aggOf Tryz.prog 126 = some false := by kernel_rfl
theorem zr126 : zeroOf Tryz.prog 126 = some .nilFunc := by kernel_rfl
theorem sz127 : szOf Tryz.prog 127 = some 4 := by kernel_rfl
theorem by127 : byOf Tryz.prog 127 = some 32 := by kernel_rfl
theorem ag127 : aggOf Tryz.prog 127 = some true := by kernel_rfl
theorem eg127 : Tryz.prog.eqGuardType Tryz.prog.depth 127 = false := by kernel_rfl
theorem si127 : Tryz.prog.stoodInHeld 127 = false := by kernel_rfl
theorem zr127 : zeroOf Tryz.prog 127 = some (.agg #[(.int .i64 0), (.int .i64 0), (.int .i64 0), (.int .i64 0)]) := by kernel_rfl
theorem sz128 : szOf Tryz.prog 128 = some 4 := by kernel_rfl
theorem by128 : byOf Tryz.prog 128 = some 32 := by kernel_rfl
theorem ag128 : aggOf Tryz.prog 128 = some true := by kernel_rfl
theorem eg128 : Tryz.prog.eqGuardType Tryz.prog.depth 128 = false := by kernel_rfl
theorem si128 : Tryz.prog.stoodInHeld 128 = false := by kernel_rfl
theorem zr128 : zeroOf Tryz.prog 128 = some (.agg #[(.int .i64 0), (.int .i64 0), (.int .i64 0), (.int .i64 0)]) := by kernel_rfl
theorem sz129 : szOf Tryz.prog 129 = some 1 := by kernel_rfl
theorem by129 : byOf Tryz.prog 129 = some 8 := by kernel_rfl
theorem ag129 : aggOf Tryz.prog 129 = some false := by kernel_rfl
theorem zr129 : zeroOf Tryz.prog 129 = some .nilFunc := by kernel_rfl
theorem sz130 : szOf Tryz.prog 130 = some 1 := by kernel_rfl
theorem by130 : byOf Tryz.prog 130 = some 8 := by kernel_rfl
theorem ag130 : aggOf Tryz.prog 130 = some false := by kernel_rfl
theorem zr130 : zeroOf Tryz.prog 130 = some .nilFunc := by kernel_rfl
theorem sz131 : szOf Tryz.prog 131 = some 4 := by kernel_rfl
theorem by131 : byOf Tryz.prog 131 = some 32 := by kernel_rfl
theorem ag131 : aggOf Tryz.prog 131 = some true := by kernel_rfl
theorem eg131 : Tryz.prog.eqGuardType Tryz.prog.depth 131 = false := by kernel_rfl
theorem si131 : Tryz.prog.stoodInHeld 131 = false := by kernel_rfl
theorem zr131 : zeroOf Tryz.prog 131 = some (.agg #[(.int .i64 0), (.int .i64 0), (.int .i64 0), .nilFunc]) := by kernel_rfl
theorem sz132 : szOf Tryz.prog 132 = some 1 := by kernel_rfl
theorem by132 : byOf Tryz.prog 132 = some 8 := by kernel_rfl
theorem ag132 : aggOf Tryz.prog 132 = some false := by kernel_rfl
theorem zr132 : zeroOf Tryz.prog 132 = some .nilFunc := by kernel_rfl
theorem sz133 : szOf Tryz.prog 133 = some 1 := by kernel_rfl
theorem by133 : byOf Tryz.prog 133 = some 8 := by kernel_rfl
theorem ag133 : aggOf Tryz.prog 133 = some false := by kernel_rfl
theorem zr133 : zeroOf Tryz.prog 133 = some .nilFunc := by kernel_rfl
theorem sz134 : szOf Tryz.prog 134 = some 1 := by kernel_rfl
theorem by134 : byOf Tryz.prog 134 = some 24 := by kernel_rfl
theorem ag134 : aggOf Tryz.prog 134 = some false := by kernel_rfl
theorem zr134 : zeroOf Tryz.prog 134 = some (.slice none 0 0) := by kernel_rfl
theorem sz135 : szOf Tryz.prog 135 = some 1 := by kernel_rfl
theorem by135 : byOf Tryz.prog 135 = some 8 := by kernel_rfl
theorem ag135 : aggOf Tryz.prog 135 = some false := by kernel_rfl
theorem zr135 : zeroOf Tryz.prog 135 = some .nilFunc := by kernel_rfl
theorem sz136 : szOf Tryz.prog 136 = some 1 := by kernel_rfl
theorem by136 : byOf Tryz.prog 136 = some 8 := by kernel_rfl
theorem ag136 : aggOf Tryz.prog 136 = some false := by kernel_rfl
theorem zr136 : zeroOf Tryz.prog 136 = some .nilFunc := by kernel_rfl
theorem sz137 : szOf Tryz.prog 137 = some 1 := by kernel_rfl
theorem by137 : byOf Tryz.prog 137 = some 24 := by kernel_rfl
theorem ag137 : aggOf Tryz.prog 137 = some false := by kernel_rfl
theorem zr137 : zeroOf Tryz.prog 137 = some (.slice none 0 0) := by kernel_rfl
theorem sz139 : szOf Tryz.prog 139 = some 1 := by kernel_rfl
theorem by139 : byOf Tryz.prog 139 = some 8 := by kernel_rfl
theorem ag139 : aggOf Tryz.prog 139 = some false := by kernel_rfl
theorem zr139 : zeroOf Tryz.prog 139 = some .nilFunc := by kernel_rfl
theorem sz140 : szOf Tryz.prog 140 = some 1 := by kernel_rfl
theorem by140 : byOf Tryz.prog 140 = some 8 := by kernel_rfl
theorem ag140 : aggOf Tryz.prog 140 = some false := by kernel_rfl
theorem zr140 : zeroOf Tryz.prog 140 = some .nilFunc := by kernel_rfl
theorem sz141 : szOf Tryz.prog 141 = some 2 := by kernel_rfl
theorem by141 : byOf Tryz.prog 141 = some 16 := by kernel_rfl
theorem ag141 : aggOf Tryz.prog 141 = some true := by kernel_rfl
theorem eg141 : Tryz.prog.eqGuardType Tryz.prog.depth 141 = false := by kernel_rfl
theorem si141 : Tryz.prog.stoodInHeld 141 = false := by kernel_rfl
theorem zr141 : zeroOf Tryz.prog 141 = some (.agg #[(.int .i64 0), (.int .i64 0)]) := by kernel_rfl
theorem sz142 : szOf Tryz.prog 142 = some 2 := by kernel_rfl
theorem by142 : byOf Tryz.prog 142 = some 16 := by kernel_rfl
theorem ag142 : aggOf Tryz.prog 142 = some true := by kernel_rfl
theorem eg142 : Tryz.prog.eqGuardType Tryz.prog.depth 142 = false := by kernel_rfl
theorem si142 : Tryz.prog.stoodInHeld 142 = false := by kernel_rfl
theorem zr142 : zeroOf Tryz.prog 142 = some (.agg #[(.int .i64 0), (.int .i64 0)]) := by kernel_rfl
theorem sz143 : szOf Tryz.prog 143 = some 1 := by kernel_rfl
theorem by143 : byOf Tryz.prog 143 = some 8 := by kernel_rfl
theorem ag143 : aggOf Tryz.prog 143 = some false := by kernel_rfl
theorem zr143 : zeroOf Tryz.prog 143 = some .nilFunc := by kernel_rfl
theorem sz145 : szOf Tryz.prog 145 = some 1 := by kernel_rfl
theorem by145 : byOf Tryz.prog 145 = some 8 := by kernel_rfl
theorem ag145 : aggOf Tryz.prog 145 = some false := by kernel_rfl
theorem zr145 : zeroOf Tryz.prog 145 = some .nilFunc := by kernel_rfl
theorem sz146 : szOf Tryz.prog 146 = some 1 := by kernel_rfl
theorem by146 : byOf Tryz.prog 146 = some 8 := by kernel_rfl
theorem ag146 : aggOf Tryz.prog 146 = some false := by kernel_rfl
theorem zr146 : zeroOf Tryz.prog 146 = some .nilFunc := by kernel_rfl
theorem sz147 : szOf Tryz.prog 147 = some 1 := by kernel_rfl
theorem by147 : byOf Tryz.prog 147 = some 8 := by kernel_rfl
theorem ag147 : aggOf Tryz.prog 147 = some false := by kernel_rfl
theorem zr147 : zeroOf Tryz.prog 147 = some .nilFunc := by kernel_rfl
theorem sz148 : szOf Tryz.prog 148 = some 1 := by kernel_rfl
theorem by148 : byOf Tryz.prog 148 = some 8 := by kernel_rfl
theorem ag148 : aggOf Tryz.prog 148 = some false := by kernel_rfl
theorem zr148 : zeroOf Tryz.prog 148 = some .nilFunc := by kernel_rfl
theorem sz149 : szOf Tryz.prog 149 = some 1 := by kernel_rfl
theorem by149 : byOf Tryz.prog 149 = some 8 := by kernel_rfl
theorem ag149 : aggOf Tryz.prog 149 = some false := by kernel_rfl
theorem zr149 : zeroOf Tryz.prog 149 = some .nilFunc := by kernel_rfl
theorem sz150 : szOf Tryz.prog 150 = some 1 := by kernel_rfl
theorem by150 : byOf Tryz.prog 150 = some 8 := by kernel_rfl
theorem ag150 : aggOf Tryz.prog 150 = some false := by kernel_rfl
theorem zr150 : zeroOf Tryz.prog 150 = some (.int .i64 0) := by kernel_rfl
theorem sz152 : szOf Tryz.prog 152 = some 1 := by kernel_rfl
theorem by152 : byOf Tryz.prog 152 = some 8 := by kernel_rfl
theorem ag152 : aggOf Tryz.prog 152 = some false := by kernel_rfl
theorem zr152 : zeroOf Tryz.prog 152 = some .nilFunc := by kernel_rfl
theorem sz153 : szOf Tryz.prog 153 = some 1 := by kernel_rfl
theorem by153 : byOf Tryz.prog 153 = some 8 := by kernel_rfl
theorem ag153 : aggOf Tryz.prog 153 = some false := by kernel_rfl
theorem zr153 : zeroOf Tryz.prog 153 = some .nilFunc := by kernel_rfl
theorem sz154 : szOf Tryz.prog 154 = some 1 := by kernel_rfl
theorem by154 : byOf Tryz.prog 154 = some 8 := by kernel_rfl
theorem ag154 : aggOf Tryz.prog 154 = some false := by kernel_rfl
theorem zr154 : zeroOf Tryz.prog 154 = some .nilFunc := by kernel_rfl
theorem sz155 : szOf Tryz.prog 155 = some 1 := by kernel_rfl
theorem by155 : byOf Tryz.prog 155 = some 8 := by kernel_rfl
theorem ag155 : aggOf Tryz.prog 155 = some false := by kernel_rfl
theorem zr155 : zeroOf Tryz.prog 155 = some .nilFunc := by kernel_rfl
theorem sz157 : szOf Tryz.prog 157 = some 1 := by kernel_rfl
theorem by157 : byOf Tryz.prog 157 = some 8 := by kernel_rfl
theorem ag157 : aggOf Tryz.prog 157 = some false := by kernel_rfl
theorem zr157 : zeroOf Tryz.prog 157 = some .nilFunc := by kernel_rfl
theorem sz158 : szOf Tryz.prog 158 = some 1 := by kernel_rfl
theorem by158 : byOf Tryz.prog 158 = some 8 := by kernel_rfl
theorem ag158 : aggOf Tryz.prog 158 = some false := by kernel_rfl
theorem zr158 : zeroOf Tryz.prog 158 = some .nilFunc := by kernel_rfl
theorem sz159 : szOf Tryz.prog 159 = some 1 := by kernel_rfl
theorem by159 : byOf Tryz.prog 159 = some 4 := by kernel_rfl
theorem ag159 : aggOf Tryz.prog 159 = some false := by kernel_rfl
theorem zr159 : zeroOf Tryz.prog 159 = some (.int .u32 0) := by kernel_rfl
theorem sz160 : szOf Tryz.prog 160 = some 1 := by kernel_rfl
theorem by160 : byOf Tryz.prog 160 = some 8 := by kernel_rfl
theorem ag160 : aggOf Tryz.prog 160 = some false := by kernel_rfl
theorem zr160 : zeroOf Tryz.prog 160 = some .nilFunc := by kernel_rfl
theorem sz161 : szOf Tryz.prog 161 = some 1 := by kernel_rfl
theorem by161 : byOf Tryz.prog 161 = some 8 := by kernel_rfl
theorem ag161 : aggOf Tryz.prog 161 = some false := by kernel_rfl
theorem zr161 : zeroOf Tryz.prog 161 = some .nilFunc := by kernel_rfl
theorem sz162 : szOf Tryz.prog 162 = some 1 := by kernel_rfl
theorem by162 : byOf Tryz.prog 162 = some 8 := by kernel_rfl
theorem ag162 : aggOf Tryz.prog 162 = some false := by kernel_rfl
theorem zr162 : zeroOf Tryz.prog 162 = some .nilFunc := by kernel_rfl
theorem sz163 : szOf Tryz.prog 163 = some 1 := by kernel_rfl
theorem by163 : byOf Tryz.prog 163 = some 8 := by kernel_rfl
theorem ag163 : aggOf Tryz.prog 163 = some false := by kernel_rfl
theorem zr163 : zeroOf Tryz.prog 163 = some .nilFunc := by kernel_rfl
theorem sz164 : szOf Tryz.prog 164 = some 1 := by kernel_rfl
theorem by164 : byOf Tryz.prog 164 = some 8 := by kernel_rfl
theorem ag164 : aggOf Tryz.prog 164 = some false := by kernel_rfl
theorem zr164 : zeroOf Tryz.prog 164 = some (.pointer none) := by kernel_rfl
theorem sz165 : szOf Tryz.prog 165 = some 1 := by kernel_rfl
theorem by165 : byOf Tryz.prog 165 = some 8 := by kernel_rfl
theorem ag165 : aggOf Tryz.prog 165 = some false := by kernel_rfl
theorem zr165 : zeroOf Tryz.prog 165 = some .nilFunc := by kernel_rfl
theorem sz166 : szOf Tryz.prog 166 = some 1 := by kernel_rfl
theorem by166 : byOf Tryz.prog 166 = some 8 := by kernel_rfl
theorem ag166 : aggOf Tryz.prog 166 = some true := by kernel_rfl
theorem eg166 : Tryz.prog.eqGuardType Tryz.prog.depth 166 = false := by kernel_rfl
theorem si166 : Tryz.prog.stoodInHeld 166 = false := by kernel_rfl
theorem zr166 : zeroOf Tryz.prog 166 = some (.agg #[(.pointer none)]) := by kernel_rfl
theorem sz167 : szOf Tryz.prog 167 = some 1 := by kernel_rfl
theorem by167 : byOf Tryz.prog 167 = some 8 := by kernel_rfl
theorem ag167 : aggOf Tryz.prog 167 = some true := by kernel_rfl
theorem eg167 : Tryz.prog.eqGuardType Tryz.prog.depth 167 = false := by kernel_rfl
theorem si167 : Tryz.prog.stoodInHeld 167 = false := by kernel_rfl
theorem zr167 : zeroOf Tryz.prog 167 = some (.agg #[(.pointer none)]) := by kernel_rfl
theorem sz168 : szOf Tryz.prog 168 = some 1 := by kernel_rfl
theorem by168 : byOf Tryz.prog 168 = some 8 := by kernel_rfl
theorem ag168 : aggOf Tryz.prog 168 = some false := by kernel_rfl
theorem zr168 : zeroOf Tryz.prog 168 = some .nilFunc := by kernel_rfl
theorem sz169 : szOf Tryz.prog 169 = some 1 := by kernel_rfl
theorem by169 : byOf Tryz.prog 169 = some 8 := by kernel_rfl
theorem ag169 : aggOf Tryz.prog 169 = some false := by kernel_rfl
theorem zr169 : zeroOf Tryz.prog 169 = some .nilFunc := by kernel_rfl
theorem sz170 : szOf Tryz.prog 170 = some 1 := by kernel_rfl
theorem by170 : byOf Tryz.prog 170 = some 8 := by kernel_rfl
theorem ag170 : aggOf Tryz.prog 170 = some false := by kernel_rfl
theorem zr170 : zeroOf Tryz.prog 170 = some .nilFunc := by kernel_rfl
theorem sz171 : szOf Tryz.prog 171 = some 1 := by kernel_rfl
theorem by171 : byOf Tryz.prog 171 = some 8 := by kernel_rfl
theorem ag171 : aggOf Tryz.prog 171 = some false := by kernel_rfl
theorem zr171 : zeroOf Tryz.prog 171 = some .nilFunc := by kernel_rfl
theorem sz172 : szOf Tryz.prog 172 = some 1 := by kernel_rfl
theorem by172 : byOf Tryz.prog 172 = some 8 := by kernel_rfl
theorem ag172 : aggOf Tryz.prog 172 = some false := by kernel_rfl
theorem zr172 : zeroOf Tryz.prog 172 = some .nilFunc := by kernel_rfl
theorem sz173 : szOf Tryz.prog 173 = some 1 := by kernel_rfl
theorem by173 : byOf Tryz.prog 173 = some 8 := by kernel_rfl
theorem ag173 : aggOf Tryz.prog 173 = some false := by kernel_rfl
theorem zr173 : zeroOf Tryz.prog 173 = some .nilFunc := by kernel_rfl
theorem sz174 : szOf Tryz.prog 174 = some 1 := by kernel_rfl
theorem by174 : byOf Tryz.prog 174 = some 8 := by kernel_rfl
theorem ag174 : aggOf Tryz.prog 174 = some false := by kernel_rfl
theorem zr174 : zeroOf Tryz.prog 174 = some .nilFunc := by kernel_rfl
theorem sz175 : szOf Tryz.prog 175 = some 1 := by kernel_rfl
theorem by175 : byOf Tryz.prog 175 = some 8 := by kernel_rfl
theorem ag175 : aggOf Tryz.prog 175 = some false := by kernel_rfl
theorem zr175 : zeroOf Tryz.prog 175 = some .nilFunc := by kernel_rfl
theorem sz176 : szOf Tryz.prog 176 = some 1 := by kernel_rfl
theorem by176 : byOf Tryz.prog 176 = some 8 := by kernel_rfl
theorem ag176 : aggOf Tryz.prog 176 = some false := by kernel_rfl
theorem zr176 : zeroOf Tryz.prog 176 = some .nilFunc := by kernel_rfl
theorem sz177 : szOf Tryz.prog 177 = some 1 := by kernel_rfl
theorem by177 : byOf Tryz.prog 177 = some 8 := by kernel_rfl
theorem ag177 : aggOf Tryz.prog 177 = some false := by kernel_rfl
theorem zr177 : zeroOf Tryz.prog 177 = some .nilFunc := by kernel_rfl
theorem sz178 : szOf Tryz.prog 178 = some 1 := by kernel_rfl
theorem by178 : byOf Tryz.prog 178 = some 8 := by kernel_rfl
theorem ag178 : aggOf Tryz.prog 178 = some false := by kernel_rfl
theorem zr178 : zeroOf Tryz.prog 178 = some .nilFunc := by kernel_rfl
theorem sz179 : szOf Tryz.prog 179 = some 1 := by kernel_rfl
theorem by179 : byOf Tryz.prog 179 = some 8 := by kernel_rfl
theorem ag179 : aggOf Tryz.prog 179 = some false := by kernel_rfl
theorem zr179 : zeroOf Tryz.prog 179 = some (.int .u64 0) := by kernel_rfl
theorem sz180 : szOf Tryz.prog 180 = some 1 := by kernel_rfl
theorem by180 : byOf Tryz.prog 180 = some 8 := by kernel_rfl
theorem ag180 : aggOf Tryz.prog 180 = some false := by kernel_rfl
theorem zr180 : zeroOf Tryz.prog 180 = some .nilFunc := by kernel_rfl
theorem sz181 : szOf Tryz.prog 181 = some 1 := by kernel_rfl
theorem by181 : byOf Tryz.prog 181 = some 8 := by kernel_rfl
theorem ag181 : aggOf Tryz.prog 181 = some false := by kernel_rfl
theorem zr181 : zeroOf Tryz.prog 181 = some .nilFunc := by kernel_rfl
theorem sz182 : szOf Tryz.prog 182 = some 1 := by kernel_rfl
theorem by182 : byOf Tryz.prog 182 = some 8 := by kernel_rfl
theorem ag182 : aggOf Tryz.prog 182 = some false := by kernel_rfl
theorem zr182 : zeroOf Tryz.prog 182 = some .nilFunc := by kernel_rfl
theorem sz183 : szOf Tryz.prog 183 = some 1 := by kernel_rfl
theorem by183 : byOf Tryz.prog 183 = some 8 := by kernel_rfl
theorem ag183 : aggOf Tryz.prog 183 = some false := by kernel_rfl
theorem zr183 : zeroOf Tryz.prog 183 = some (.pointer none) := by kernel_rfl
theorem sz184 : szOf Tryz.prog 184 = some 1 := by kernel_rfl
theorem by184 : byOf Tryz.prog 184 = some 8 := by kernel_rfl
theorem ag184 : aggOf Tryz.prog 184 = some false := by kernel_rfl
theorem zr184 : zeroOf Tryz.prog 184 = some .nilFunc := by kernel_rfl
theorem sz185 : szOf Tryz.prog 185 = some 3 := by kernel_rfl
theorem by185 : byOf Tryz.prog 185 = some 24 := by kernel_rfl
theorem ag185 : aggOf Tryz.prog 185 = some true := by kernel_rfl
theorem eg185 : Tryz.prog.eqGuardType Tryz.prog.depth 185 = false := by kernel_rfl
theorem zr185 : zeroOf Tryz.prog 185 = some (.agg #[(.int .i64 0), (.int .i64 0), (.int .i64 0)]) := by kernel_rfl
theorem sz186 : szOf Tryz.prog 186 = some 1 := by kernel_rfl
theorem by186 : byOf Tryz.prog 186 = some 24 := by kernel_rfl
theorem ag186 : aggOf Tryz.prog 186 = some true := by kernel_rfl
theorem eg186 : Tryz.prog.eqGuardType Tryz.prog.depth 186 = false := by kernel_rfl
theorem si186 : Tryz.prog.stoodInHeld 186 = false := by kernel_rfl
theorem zr186 : zeroOf Tryz.prog 186 = some (.agg #[(.slice none 0 0)]) := by kernel_rfl
theorem sz187 : szOf Tryz.prog 187 = some 1 := by kernel_rfl
theorem by187 : byOf Tryz.prog 187 = some 24 := by kernel_rfl
theorem ag187 : aggOf Tryz.prog 187 = some true := by kernel_rfl
theorem eg187 : Tryz.prog.eqGuardType Tryz.prog.depth 187 = false := by kernel_rfl
theorem si187 : Tryz.prog.stoodInHeld 187 = false := by kernel_rfl
theorem zr187 : zeroOf Tryz.prog 187 = some (.agg #[(.slice none 0 0)]) := by kernel_rfl
theorem sz188 : szOf Tryz.prog 188 = some 1 := by kernel_rfl
theorem by188 : byOf Tryz.prog 188 = some 8 := by kernel_rfl
theorem ag188 : aggOf Tryz.prog 188 = some false := by kernel_rfl
theorem zr188 : zeroOf Tryz.prog 188 = some .nilFunc := by kernel_rfl
theorem sz189 : szOf Tryz.prog 189 = some 1 := by kernel_rfl
theorem by189 : byOf Tryz.prog 189 = some 8 := by kernel_rfl
theorem ag189 : aggOf Tryz.prog 189 = some false := by kernel_rfl
theorem zr189 : zeroOf Tryz.prog 189 = some .nilFunc := by kernel_rfl
theorem sz190 : szOf Tryz.prog 190 = some 1 := by kernel_rfl
theorem by190 : byOf Tryz.prog 190 = some 24 := by kernel_rfl
theorem ag190 : aggOf Tryz.prog 190 = some false := by kernel_rfl
theorem zr190 : zeroOf Tryz.prog 190 = some (.slice none 0 0) := by kernel_rfl
theorem sz191 : szOf Tryz.prog 191 = some 1 := by kernel_rfl
theorem by191 : byOf Tryz.prog 191 = some 24 := by kernel_rfl
theorem ag191 : aggOf Tryz.prog 191 = some false := by kernel_rfl
theorem zr191 : zeroOf Tryz.prog 191 = some (.slice none 0 0) := by kernel_rfl
theorem sz192 : szOf Tryz.prog 192 = some 1 := by kernel_rfl
theorem by192 : byOf Tryz.prog 192 = some 8 := by kernel_rfl
theorem ag192 : aggOf Tryz.prog 192 = some false := by kernel_rfl
theorem zr192 : zeroOf Tryz.prog 192 = some .nilFunc := by kernel_rfl
theorem sz193 : szOf Tryz.prog 193 = some 1 := by kernel_rfl
theorem by193 : byOf Tryz.prog 193 = some 24 := by kernel_rfl
theorem ag193 : aggOf Tryz.prog 193 = some false := by kernel_rfl
theorem zr193 : zeroOf Tryz.prog 193 = some (.slice none 0 0) := by kernel_rfl
theorem sz194 : szOf Tryz.prog 194 = some 1 := by kernel_rfl
theorem by194 : byOf Tryz.prog 194 = some 8 := by kernel_rfl
theorem ag194 : aggOf Tryz.prog 194 = some false := by kernel_rfl
theorem zr194 : zeroOf Tryz.prog 194 = some .nilFunc := by kernel_rfl
theorem sz195 : szOf Tryz.prog 195 = some 1 := by kernel_rfl
theorem by195 : byOf Tryz.prog 195 = some 24 := by kernel_rfl
theorem ag195 : aggOf Tryz.prog 195 = some false := by kernel_rfl
theorem zr195 : zeroOf Tryz.prog 195 = some (.slice none 0 0) := by kernel_rfl
theorem sz196 : szOf Tryz.prog 196 = some 3 := by kernel_rfl
theorem by196 : byOf Tryz.prog 196 = some 40 := by kernel_rfl
theorem ag196 : aggOf Tryz.prog 196 = some true := by kernel_rfl
theorem eg196 : Tryz.prog.eqGuardType Tryz.prog.depth 196 = false := by kernel_rfl
theorem si196 : Tryz.prog.stoodInHeld 196 = false := by kernel_rfl
theorem zr196 : zeroOf Tryz.prog 196 = some (.agg #[(.int .i64 0), (.int .i64 0), (.slice none 0 0)]) := by kernel_rfl
theorem sz197 : szOf Tryz.prog 197 = some 3 := by kernel_rfl
theorem by197 : byOf Tryz.prog 197 = some 40 := by kernel_rfl
theorem ag197 : aggOf Tryz.prog 197 = some true := by kernel_rfl
theorem eg197 : Tryz.prog.eqGuardType Tryz.prog.depth 197 = false := by kernel_rfl
theorem si197 : Tryz.prog.stoodInHeld 197 = false := by kernel_rfl
theorem zr197 : zeroOf Tryz.prog 197 = some (.agg #[(.int .i64 0), (.int .i64 0), (.slice none 0 0)]) := by kernel_rfl
theorem sz198 : szOf Tryz.prog 198 = some 1 := by kernel_rfl
theorem by198 : byOf Tryz.prog 198 = some 8 := by kernel_rfl
theorem ag198 : aggOf Tryz.prog 198 = some false := by kernel_rfl
theorem zr198 : zeroOf Tryz.prog 198 = some .nilFunc := by kernel_rfl
theorem sz199 : szOf Tryz.prog 199 = some 1 := by kernel_rfl
theorem by199 : byOf Tryz.prog 199 = some 8 := by kernel_rfl
theorem ag199 : aggOf Tryz.prog 199 = some false := by kernel_rfl
theorem zr199 : zeroOf Tryz.prog 199 = some (.pointer none) := by kernel_rfl
theorem sz200 : szOf Tryz.prog 200 = some 1 := by kernel_rfl
theorem by200 : byOf Tryz.prog 200 = some 8 := by kernel_rfl
theorem ag200 : aggOf Tryz.prog 200 = some false := by kernel_rfl
theorem zr200 : zeroOf Tryz.prog 200 = some .nilFunc := by kernel_rfl
theorem sz201 : szOf Tryz.prog 201 = some 1 := by kernel_rfl
theorem by201 : byOf Tryz.prog 201 = some 8 := by kernel_rfl
theorem ag201 : aggOf Tryz.prog 201 = some false := by kernel_rfl
theorem zr201 : zeroOf Tryz.prog 201 = some .nilFunc := by kernel_rfl
theorem sz202 : szOf Tryz.prog 202 = some 1 := by kernel_rfl
theorem by202 : byOf Tryz.prog 202 = some 8 := by kernel_rfl
theorem ag202 : aggOf Tryz.prog 202 = some false := by kernel_rfl
theorem zr202 : zeroOf Tryz.prog 202 = some .nilFunc := by kernel_rfl
theorem sz203 : szOf Tryz.prog 203 = some 24 := by kernel_rfl
theorem by203 : byOf Tryz.prog 203 = some 24 := by kernel_rfl
theorem ag203 : aggOf Tryz.prog 203 = some true := by kernel_rfl
theorem eg203 : Tryz.prog.eqGuardType Tryz.prog.depth 203 = false := by kernel_rfl
theorem zr203 : zeroOf Tryz.prog 203 = some (.agg #[(.int .u8 0), (.int .u8 0), (.int .u8 0), (.int .u8 0), (.int .u8 0), (.int .u8 0), (.int .u8 0), (.int .u8 0), (.int .u8 0), (.int .u8 0), (.int .u8 0), (.int .u8 0), (.int .u8 0), (.int .u8 0), (.int .u8 0), (.int .u8 0), (.int .u8 0), (.int .u8 0), (.int .u8 0), (.int .u8 0), (.int .u8 0), (.int .u8 0), (.int .u8 0), (.int .u8 0)]) := by kernel_rfl
theorem sz204 : szOf Tryz.prog 204 = some 1 := by kernel_rfl
theorem by204 : byOf Tryz.prog 204 = some 8 := by kernel_rfl
theorem ag204 : aggOf Tryz.prog 204 = some false := by kernel_rfl
theorem zr204 : zeroOf Tryz.prog 204 = some .nilFunc := by kernel_rfl
theorem sz206 : szOf Tryz.prog 206 = some 1 := by kernel_rfl
theorem by206 : byOf Tryz.prog 206 = some 8 := by kernel_rfl
theorem ag206 : aggOf Tryz.prog 206 = some false := by kernel_rfl
theorem zr206 : zeroOf Tryz.prog 206 = some .nilFunc := by kernel_rfl
theorem sz207 : szOf Tryz.prog 207 = some 1 := by kernel_rfl
theorem by207 : byOf Tryz.prog 207 = some 8 := by kernel_rfl
theorem ag207 : aggOf Tryz.prog 207 = some false := by kernel_rfl
theorem zr207 : zeroOf Tryz.prog 207 = some .nilFunc := by kernel_rfl
theorem sz208 : szOf Tryz.prog 208 = some 20 := by kernel_rfl
theorem by208 : byOf Tryz.prog 208 = some 160 := by kernel_rfl
theorem ag208 : aggOf Tryz.prog 208 = some true := by kernel_rfl
theorem eg208 : Tryz.prog.eqGuardType Tryz.prog.depth 208 = false := by kernel_rfl
theorem zr208 : zeroOf Tryz.prog 208 = some (.agg #[(.int .u64 0), (.int .u64 0), (.int .u64 0), (.int .u64 0), (.int .u64 0), (.int .u64 0), (.int .u64 0), (.int .u64 0), (.int .u64 0), (.int .u64 0), (.int .u64 0), (.int .u64 0), (.int .u64 0), (.int .u64 0), (.int .u64 0), (.int .u64 0), (.int .u64 0), (.int .u64 0), (.int .u64 0), (.int .u64 0)]) := by kernel_rfl
theorem sz209 : szOf Tryz.prog 209 = some 65 := by kernel_rfl
theorem by209 : byOf Tryz.prog 209 = some 65 := by kernel_rfl
theorem ag209 : aggOf Tryz.prog 209 = some true := by kernel_rfl
theorem eg209 : Tryz.prog.eqGuardType Tryz.prog.depth 209 = false := by kernel_rfl
theorem zr209 : zeroOf Tryz.prog 209 = some (.agg #[(.int .u8 0), (.int .u8 0), (.int .u8 0), (.int .u8 0), (.int .u8 0), (.int .u8 0), (.int .u8 0), (.int .u8 0), (.int .u8 0), (.int .u8 0), (.int .u8 0), (.int .u8 0), (.int .u8 0), (.int .u8 0), (.int .u8 0), (.int .u8 0), (.int .u8 0), (.int .u8 0), (.int .u8 0), (.int .u8 0), (.int .u8 0), (.int .u8 0), (.int .u8 0), (.int .u8 0), (.int .u8 0), (.int .u8 0), (.int .u8 0), (.int .u8 0), (.int .u8 0), (.int .u8 0), (.int .u8 0), (.int .u8 0), (.int .u8 0), (.int .u8 0), (.int .u8 0), (.int .u8 0), (.int .u8 0), (.int .u8 0), (.int .u8 0), (.int .u8 0), (.int .u8 0), (.int .u8 0), (.int .u8 0), (.int .u8 0), (.int .u8 0), (.int .u8 0), (.int .u8 0), (.int .u8 0), (.int .u8 0), (.int .u8 0), (.int .u8 0), (.int .u8 0), (.int .u8 0), (.int .u8 0), (.int .u8 0), (.int .u8 0), (.int .u8 0), (.int .u8 0), (.int .u8 0), (.int .u8 0), (.int .u8 0), (.int .u8 0), (.int .u8 0), (.int .u8 0), (.int .u8 0)]) := by kernel_rfl
theorem sz210 : szOf Tryz.prog 210 = some 32 := by kernel_rfl
theorem by210 : byOf Tryz.prog 210 = some 32 := by kernel_rfl
theorem ag210 : aggOf Tryz.prog 210 = some true := by kernel_rfl
theorem eg210 : Tryz.prog.eqGuardType Tryz.prog.depth 210 = false := by kernel_rfl
theorem zr210 : zeroOf Tryz.prog 210 = some (.agg #[(.int .u8 0), (.int .u8 0), (.int .u8 0), (.int .u8 0), (.int .u8 0), (.int .u8 0), (.int .u8 0), (.int .u8 0), (.int .u8 0), (.int .u8 0), (.int .u8 0), (.int .u8 0), (.int .u8 0), (.int .u8 0), (.int .u8 0), (.int .u8 0), (.int .u8 0), (.int .u8 0), (.int .u8 0), (.int .u8 0), (.int .u8 0), (.int .u8 0), (.int .u8 0), (.int .u8 0), (.int .u8 0), (.int .u8 0), (.int .u8 0), (.int .u8 0), (.int .u8 0), (.int .u8 0), (.int .u8 0), (.int .u8 0)]) := by kernel_rfl
theorem sz211 : szOf Tryz.prog 211 = some 64 := by kernel_rfl
theorem by211 : byOf Tryz.prog 211 = some 64 := by kernel_rfl
theorem ag211 : aggOf Tryz.prog 211 = some true := by kernel_rfl
theorem eg211 : Tryz.prog.eqGuardType Tryz.prog.depth 211 = false := by kernel_rfl
theorem zr211 : zeroOf Tryz.prog 211 = some (.agg #[(.int .u8 0), (.int .u8 0), (.int .u8 0), (.int .u8 0), (.int .u8 0), (.int .u8 0), (.int .u8 0), (.int .u8 0), (.int .u8 0), (.int .u8 0), (.int .u8 0), (.int .u8 0), (.int .u8 0), (.int .u8 0), (.int .u8 0), (.int .u8 0), (.int .u8 0), (.int .u8 0), (.int .u8 0), (.int .u8 0), (.int .u8 0), (.int .u8 0), (.int .u8 0), (.int .u8 0), (.int .u8 0), (.int .u8 0), (.int .u8 0), (.int .u8 0), (.int .u8 0), (.int .u8 0), (.int .u8 0), (.int .u8 0), (.int .u8 0), (.int .u8 0), (.int .u8 0), (.int .u8 0), (.int .u8 0), (.int .u8 0), (.int .u8 0), (.int .u8 0), (.int .u8 0), (.int .u8 0), (.int .u8 0), (.int .u8 0), (.int .u8 0), (.int .u8 0), (.int .u8 0), (.int .u8 0), (.int .u8 0), (.int .u8 0), (.int .u8 0), (.int .u8 0), (.int .u8 0), (.int .u8 0), (.int .u8 0), (.int .u8 0), (.int .u8 0), (.int .u8 0), (.int .u8 0), (.int .u8 0), (.int .u8 0), (.int .u8 0), (.int .u8 0), (.int .u8 0)]) := by kernel_rfl
theorem sz212 : szOf Tryz.prog 212 = some 1 := by kernel_rfl
theorem by212 : byOf Tryz.prog 212 = some 8 := by kernel_rfl
theorem ag212 : aggOf Tryz.prog 212 = some false := by kernel_rfl
theorem zr212 : zeroOf Tryz.prog 212 = some .nilFunc := by kernel_rfl
theorem sz215 : szOf Tryz.prog 215 = some 0 := by kernel_rfl
theorem by215 : byOf Tryz.prog 215 = some 0 := by kernel_rfl
theorem ag215 : aggOf Tryz.prog 215 = some true := by kernel_rfl
theorem eg215 : Tryz.prog.eqGuardType Tryz.prog.depth 215 = false := by kernel_rfl
theorem zr215 : zeroOf Tryz.prog 215 = some (.agg #[]) := by kernel_rfl
theorem sz220 : szOf Tryz.prog 220 = some 1 := by kernel_rfl
theorem by220 : byOf Tryz.prog 220 = some 8 := by kernel_rfl
theorem ag220 : aggOf Tryz.prog 220 = some false := by kernel_rfl
theorem zr220 : zeroOf Tryz.prog 220 = some .nilFunc := by kernel_rfl
theorem sz221 : szOf Tryz.prog 221 = some 1 := by kernel_rfl
theorem by221 : byOf Tryz.prog 221 = some 8 := by kernel_rfl
theorem ag221 : aggOf Tryz.prog 221 = some false := by kernel_rfl
theorem zr221 : zeroOf Tryz.prog 221 = some (.pointer none) := by kernel_rfl
theorem sz226 : szOf Tryz.prog 226 = some 1 := by kernel_rfl
theorem by226 : byOf Tryz.prog 226 = some 8 := by kernel_rfl
theorem ag226 : aggOf Tryz.prog 226 = some false := by kernel_rfl
theorem zr226 : zeroOf Tryz.prog 226 = some .nilFunc := by kernel_rfl
theorem sz227 : szOf Tryz.prog 227 = some 3 := by kernel_rfl
theorem by227 : byOf Tryz.prog 227 = some 3 := by kernel_rfl
theorem ag227 : aggOf Tryz.prog 227 = some true := by kernel_rfl
theorem eg227 : Tryz.prog.eqGuardType Tryz.prog.depth 227 = false := by kernel_rfl
theorem zr227 : zeroOf Tryz.prog 227 = some (.agg #[(.int .u8 0), (.int .u8 0), (.int .u8 0)]) := by kernel_rfl
theorem sz228 : szOf Tryz.prog 228 = some 1 := by kernel_rfl
theorem by228 : byOf Tryz.prog 228 = some 8 := by kernel_rfl
theorem ag228 : aggOf Tryz.prog 228 = some false := by kernel_rfl
theorem zr228 : zeroOf Tryz.prog 228 = some (.pointer none) := by kernel_rfl
theorem co5 : Tryz.prog.cellsOf 5 = 1 := by kernel_rfl
attribute [push_cast] sz1 by1 ag1 zr1 sz2 by2 ag2 zr2 sz3 by3 ag3 zr3 sz4 by4 ag4 zr4 sz5 by5 ag5 zr5 sz9 by9 ag9 zr9 sz12 by12 ag12 zr12 sz15 by15 ag15 zr15 sz16 by16 ag16 zr16 sz17 by17 ag17 zr17 sz20 by20 ag20 zr20 sz21 by21 ag21 zr21 sz22 by22 ag22 zr22 sz23 by23 ag23 zr23 sz24 by24 ag24 zr24 sz26 by26 ag26 zr26 sz27 by27 ag27 zr27 sz28 by28 ag28 eg28 zr28 sz29 by29 ag29 eg29 zr29 sz30 by30 ag30 zr30 sz31 by31 ag31 zr31 sz32 by32 ag32 zr32 sz33 by33 ag33 eg33 si33 zr33 sz34 by34 ag34 eg34 si34 zr34 sz35 by35 ag35 zr35 sz36 by36 ag36 zr36 sz37 by37 ag37 zr37 sz38 by38 ag38 zr38 sz39 by39 ag39 zr39 sz40 by40 ag40 zr40 sz41 by41 ag41 zr41 sz42 by42 ag42 eg42 zr42 sz43 by43 ag43 eg43 zr43 sz44 by44 ag44 eg44 si44 zr44 sz45 by45 ag45 eg45 si45 zr45 sz46 by46 ag46 zr46 sz47 by47 ag47 zr47 sz48 by48 ag48 zr48 sz49 by49 ag49 zr49 sz50 by50 ag50 eg50 si50 zr50 sz51 by51 ag51 eg51 si51 zr51 sz53 by53 ag53 zr53 sz54 by54 ag54 zr54 sz55 by55 ag55 zr55 sz57 by57 ag57 zr57 sz58 by58 ag58 zr58 sz59 by59 ag59 eg59 si59 zr59 sz60 by60 ag60 eg60 si60 zr60 sz61 by61 ag61 eg61 si61 zr61 sz62 by62 ag62 eg62 si62 zr62 sz63 by63 ag63 eg63 si63 zr63 sz64 by64 ag64 eg64 si64 zr64 sz65 by65 ag65 zr65 sz66 by66 ag66 zr66 sz67 by67 ag67 zr67 sz68 by68 ag68 zr68 sz69 by69 ag69 eg69 si69 zr69 sz70 by70 ag70 eg70 si70 zr70 sz71 by71 ag71 zr71 sz72 by72 ag72 zr72 sz73 by73 ag73 zr73 sz74 by74 ag74 eg74 si74 zr74 sz75 by75 ag75 eg75 si75 zr75 sz76 by76 ag76 zr76 sz77 by77 ag77 eg77 si77 zr77 sz78 by78 ag78 eg78 si78 zr78 sz79 by79 ag79 zr79 sz80 by80 ag80 zr80 sz81 by81 ag81 zr81 sz82 by82 ag82 zr82 sz83 by83 ag83 zr83 sz84 by84 ag84 zr84 sz85 by85 ag85 zr85 sz86 by86 ag86 zr86 sz87 by87 ag87 zr87 sz88 by88 ag88 eg88 si88 zr88 sz89 by89 ag89 eg89 si89 zr89 sz90 by90 ag90 zr90 sz91 by91 ag91 zr91 sz92 by92 ag92 eg92 si92 zr92 sz93 by93 ag93 eg93 si93 zr93 sz94 by94 ag94 zr94 sz95 by95 ag95 zr95 sz96 by96 ag96 eg96 zr96 sz97 by97 ag97 eg97 zr97 sz98 by98 ag98 eg98 si98 zr98 sz99 by99 ag99 eg99 si99 zr99 sz100 by100 ag100 zr100 sz102 by102 ag102 zr102 sz103 by103 ag103 zr103 sz104 by104 ag104 zr104 sz105 by105 ag105 zr105 sz106 by106 ag106 eg106 si106 zr106 sz107 by107 ag107 eg107 si107 zr107 sz108 by108 ag108 zr108 sz109 by109 ag109 eg109 si109 zr109 sz110 by110 ag110 eg110 si110 zr110 sz111 by111 ag111 eg111 si111 zr111 sz112 by112 ag112 eg112 si112 zr112 sz113 by113 ag113 eg113 si113 zr113 sz114 by114 ag114 eg114 si114 zr114 sz115 by115 ag115 zr115 sz116 by116 ag116 eg116 si116 zr116 sz117 by117 ag117 eg117 si117 zr117 sz118 by118 ag118 eg118 si118 zr118 sz119 by119 ag119 eg119 si119 zr119 sz120 by120 ag120 zr120 sz121 by121 ag121 zr121 sz122 by122 ag122 zr122 sz123 by123 ag123 zr123 sz124 by124 ag124 zr124 sz125 by125 ag125 zr125 sz126 by126 ag126 zr126 sz127 by127 ag127 eg127 si127 zr127 sz128 by128 ag128 eg128 si128 zr128 sz129 by129 ag129 zr129 sz130 by130 ag130 zr130 sz131 by131 ag131 eg131 si131 zr131 sz132 by132 ag132 zr132 sz133 by133 ag133 zr133 sz134 by134 ag134 zr134 sz135 by135 ag135 zr135 sz136 by136 ag136 zr136 sz137 by137 ag137 zr137 sz139 by139 ag139 zr139 sz140 by140 ag140 zr140 sz141 by141 ag141 eg141 si141 zr141 sz142 by142 ag142 eg142 si142 zr142 sz143 by143 ag143 zr143 sz145 by145 ag145 zr145 sz146 by146 ag146 zr146 sz147 by147 ag147 zr147 sz148 by148 ag148 zr148 sz149 by149 ag149 zr149 sz150 by150 ag150 zr150 sz152 by152 ag152 zr152 sz153 by153 ag153 zr153 sz154 by154 ag154 zr154 sz155 by155 ag155 zr155 sz157 by157 ag157 zr157 sz158 by158 ag158 zr158 sz159 by159 ag159 zr159 sz160 by160 ag160 zr160 sz161 by161 ag161 zr161 sz162 by162 ag162 zr162 sz163 by163 ag163 zr163 sz164 by164 ag164 zr164 sz165 by165 ag165 zr165 sz166 by166 ag166 eg166 si166 zr166 sz167 by167 ag167 eg167 si167 zr167 sz168 by168 ag168 zr168 sz169 by169 ag169 zr169 sz170 by170 ag170 zr170 sz171 by171 ag171 zr171 sz172 by172 ag172 zr172 sz173 by173 ag173 zr173 sz174 by174 ag174 zr174 sz175 by175 ag175 zr175 sz176 by176 ag176 zr176 sz177 by177 ag177 zr177 sz178 by178 ag178 zr178 sz179 by179 ag179 zr179 sz180 by180 ag180 zr180 sz181 by181 ag181 zr181 sz182 by182 ag182 zr182 sz183 by183 ag183 zr183 sz184 by184 ag184 zr184 sz185 by185 ag185 eg185 zr185 sz186 by186 ag186 eg186 si186 zr186 sz187 by187 ag187 eg187 si187 zr187 sz188 by188 ag188 zr188 sz189 by189 ag189 zr189 sz190 by190 ag190 zr190 sz191 by191 ag191 zr191 sz192 by192 ag192 zr192 sz193 by193 ag193 zr193 sz194 by194 ag194 zr194 sz195 by195 ag195 zr195 sz196 by196 ag196 eg196 si196 zr196 sz197 by197 ag197 eg197 si197 zr197 sz198 by198 ag198 zr198 sz199 by199 ag199 zr199 sz200 by200 ag200 zr200 sz201 by201 ag201 zr201 sz202 by202 ag202 zr202 sz203 by203 ag203 eg203 zr203 sz204 by204 ag204 zr204 sz206 by206 ag206 zr206 sz207 by207 ag207 zr207 sz208 by208 ag208 eg208 zr208 sz209 by209 ag209 eg209 zr209 sz210 by210 ag210 eg210 zr210 sz211 by211 ag211 eg211 zr211 sz212 by212 ag212 zr212 sz215 by215 ag215 eg215 zr215 sz220 by220 ag220 zr220 sz221 by221 ag221 zr221 sz226 by226 ag226 zr226 sz227 by227 ag227 eg227 zr227 sz228 by228 ag228 zr228 co5 Tryz.underlying0 Tryz.underlying1 Tryz.underlying2 Tryz.underlying3 Tryz.underlying4 Tryz.underlying5 Tryz.underlying6 Tryz.underlying7 Tryz.underlying8 Tryz.underlying9 Tryz.underlying10 Tryz.underlying11 Tryz.underlying12 Tryz.underlying13 Tryz.underlying14 Tryz.underlying15 Tryz.underlying16 Tryz.underlying17 Tryz.underlying18 Tryz.underlying19 Tryz.underlying20 Tryz.underlying21 Tryz.underlying22 Tryz.underlying23 Tryz.underlying24 Tryz.underlying25 Tryz.underlying26 Tryz.underlying27 Tryz.underlying28 Tryz.underlying29 Tryz.underlying30 Tryz.underlying31 Tryz.underlying32 Tryz.underlying33 Tryz.underlying34 Tryz.underlying35 Tryz.underlying36 Tryz.underlying37 Tryz.underlying38 Tryz.underlying39 Tryz.underlying40 Tryz.underlying41 Tryz.underlying42 Tryz.underlying43 Tryz.underlying44 Tryz.underlying45 Tryz.underlying46 Tryz.underlying47 Tryz.underlying48 Tryz.underlying49 Tryz.underlying50 Tryz.underlying51 Tryz.underlying52 Tryz.underlying53 Tryz.underlying54 Tryz.underlying55 Tryz.underlying56 Tryz.underlying57 Tryz.underlying58 Tryz.underlying59 Tryz.underlying60 Tryz.underlying61 Tryz.underlying62 Tryz.underlying63 Tryz.underlying64 Tryz.underlying65 Tryz.underlying66 Tryz.underlying67 Tryz.underlying68 Tryz.underlying69 Tryz.underlying70 Tryz.underlying71 Tryz.underlying72 Tryz.underlying73 Tryz.underlying74 Tryz.underlying75 Tryz.underlying76 Tryz.underlying77 Tryz.underlying78 Tryz.underlying79 Tryz.underlying80 Tryz.underlying81 Tryz.underlying82 Tryz.underlying83 Tryz.underlying84 Tryz.underlying85 Tryz.underlying86 Tryz.underlying87 Tryz.underlying88 Tryz.underlying89 Tryz.underlying90 Tryz.underlying91 Tryz.underlying92 Tryz.underlying93 Tryz.underlying94 Tryz.underlying95 Tryz.underlying96 Tryz.underlying97 Tryz.underlying98 Tryz.underlying99 Tryz.underlying100 Tryz.underlying101 Tryz.underlying102 Tryz.underlying103 Tryz.underlying104 Tryz.underlying105 Tryz.underlying106 Tryz.underlying107 Tryz.underlying108 Tryz.underlying109 Tryz.underlying110 Tryz.underlying111 Tryz.underlying112 Tryz.underlying113 Tryz.underlying114 Tryz.underlying115 Tryz.underlying116 Tryz.underlying117 Tryz.underlying118 Tryz.underlying119 Tryz.underlying120 Tryz.underlying121 Tryz.underlying122 Tryz.underlying123 Tryz.underlying124 Tryz.underlying125 Tryz.underlying126 Tryz.underlying127 Tryz.underlying128 Tryz.underlying129 Tryz.underlying130 Tryz.underlying131 Tryz.underlying132 Tryz.underlying133 Tryz.underlying134 Tryz.underlying135 Tryz.underlying136 Tryz.underlying137 Tryz.underlying138 Tryz.underlying139 Tryz.underlying140 Tryz.underlying141 Tryz.underlying142 Tryz.underlying143 Tryz.underlying144 Tryz.underlying145 Tryz.underlying146 Tryz.underlying147 Tryz.underlying148 Tryz.underlying149 Tryz.underlying150 Tryz.underlying151 Tryz.underlying152 Tryz.underlying153 Tryz.underlying154 Tryz.underlying155 Tryz.underlying156 Tryz.underlying157 Tryz.underlying158 Tryz.underlying159 Tryz.underlying160 Tryz.underlying161 Tryz.underlying162 Tryz.underlying163 Tryz.underlying164 Tryz.underlying165 Tryz.underlying166 Tryz.underlying167 Tryz.underlying168 Tryz.underlying169 Tryz.underlying170 Tryz.underlying171 Tryz.underlying172 Tryz.underlying173 Tryz.underlying174 Tryz.underlying175 Tryz.underlying176 Tryz.underlying177 Tryz.underlying178 Tryz.underlying179 Tryz.underlying180 Tryz.underlying181 Tryz.underlying182 Tryz.underlying183 Tryz.underlying184 Tryz.underlying185 Tryz.underlying186 Tryz.underlying187 Tryz.underlying188 Tryz.underlying189 Tryz.underlying190 Tryz.underlying191 Tryz.underlying192 Tryz.underlying193 Tryz.underlying194 Tryz.underlying195 Tryz.underlying196 Tryz.underlying197 Tryz.underlying198 Tryz.underlying199 Tryz.underlying200 Tryz.underlying201 Tryz.underlying202 Tryz.underlying203 Tryz.underlying204 Tryz.underlying205 Tryz.underlying206 Tryz.underlying207 Tryz.underlying208 Tryz.underlying209 Tryz.underlying210 Tryz.underlying211 Tryz.underlying212 Tryz.underlying213 Tryz.underlying214 Tryz.underlying215 Tryz.underlying216 Tryz.underlying217 Tryz.underlying218 Tryz.underlying219 Tryz.underlying220 Tryz.underlying221 Tryz.underlying222 Tryz.underlying223 Tryz.underlying224 Tryz.underlying225 Tryz.underlying226 Tryz.underlying227 Tryz.underlying228
end Go.Proofs.YtdeacicnfglhdaaGreatDoor
