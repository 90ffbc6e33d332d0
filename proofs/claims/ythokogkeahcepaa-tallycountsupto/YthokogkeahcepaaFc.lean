/-
  FACTS on the types of this seat's program, written by a program of mine (gen_facts.py).
-/
import Derived.Test.YthokogkeahcepaaProg
import Derived.Test.YthokogkeahcepaaEngN
set_option maxRecDepth 100000
namespace Go.Proofs.Ythokogkeahcepaa
open Go Go.Eng
theorem fol : Try.prog.follows .mixedOrders = true := by kernel_rfl
theorem sz1 : szOf Try.prog 1 = some 1 := by kernel_rfl
theorem by1 : byOf Try.prog 1 = some 8 := by kernel_rfl
theorem ag1 : aggOf Try.prog 1 = some false := by kernel_rfl
theorem zr1 : zeroOf Try.prog 1 = some .nilFunc := by kernel_rfl
theorem sz2 : szOf Try.prog 2 = some 1 := by kernel_rfl
theorem by2 : byOf Try.prog 2 = some 8 := by kernel_rfl
theorem ag2 : aggOf Try.prog 2 = some false := by kernel_rfl
theorem zr2 : zeroOf Try.prog 2 = some (.int .i64 0) := by kernel_rfl
theorem sz3 : szOf Try.prog 3 = some 1 := by kernel_rfl
theorem by3 : byOf Try.prog 3 = some 8 := by kernel_rfl
theorem ag3 : aggOf Try.prog 3 = some false := by kernel_rfl
theorem zr3 : zeroOf Try.prog 3 = some (.int .i64 0) := by kernel_rfl
theorem sz4 : szOf Try.prog 4 = some 1 := by kernel_rfl
theorem by4 : byOf Try.prog 4 = some 1 := by kernel_rfl
theorem ag4 : aggOf Try.prog 4 = some false := by kernel_rfl
theorem zr4 : zeroOf Try.prog 4 = some (.bool false) := by kernel_rfl
theorem sz5 : szOf Try.prog 5 = some 1 := by kernel_rfl
theorem by5 : byOf Try.prog 5 = some 1 := by kernel_rfl
theorem ag5 : aggOf Try.prog 5 = some false := by kernel_rfl
theorem zr5 : zeroOf Try.prog 5 = some (.int .u8 0) := by kernel_rfl
theorem sz9 : szOf Try.prog 9 = some 1 := by kernel_rfl
theorem by9 : byOf Try.prog 9 = some 16 := by kernel_rfl
theorem ag9 : aggOf Try.prog 9 = some false := by kernel_rfl
theorem zr9 : zeroOf Try.prog 9 = some (.string ByteArray.empty) := by kernel_rfl
theorem sz12 : szOf Try.prog 12 = some 1 := by kernel_rfl
theorem by12 : byOf Try.prog 12 = some 8 := by kernel_rfl
theorem ag12 : aggOf Try.prog 12 = some false := by kernel_rfl
theorem zr12 : zeroOf Try.prog 12 = some (.int .u64 0) := by kernel_rfl
theorem sz15 : szOf Try.prog 15 = some 1 := by kernel_rfl
theorem by15 : byOf Try.prog 15 = some 8 := by kernel_rfl
theorem ag15 : aggOf Try.prog 15 = some false := by kernel_rfl
theorem zr15 : zeroOf Try.prog 15 = some (.pointer none) := by kernel_rfl
theorem sz16 : szOf Try.prog 16 = some 1 := by kernel_rfl
theorem by16 : byOf Try.prog 16 = some 8 := by kernel_rfl
theorem ag16 : aggOf Try.prog 16 = some false := by kernel_rfl
theorem zr16 : zeroOf Try.prog 16 = some (.pointer none) := by kernel_rfl
theorem sz17 : szOf Try.prog 17 = some 1 := by kernel_rfl
theorem by17 : byOf Try.prog 17 = some 8 := by kernel_rfl
theorem ag17 : aggOf Try.prog 17 = some false := by kernel_rfl
theorem zr17 : zeroOf Try.prog 17 = some (.pointer none) := by kernel_rfl
theorem sz20 : szOf Try.prog 20 = some 1 := by kernel_rfl
theorem by20 : byOf Try.prog 20 = some 16 := by kernel_rfl
theorem ag20 : aggOf Try.prog 20 = some false := by kernel_rfl
theorem zr20 : zeroOf Try.prog 20 = some .nilIface := by kernel_rfl
theorem sz21 : szOf Try.prog 21 = some 1 := by kernel_rfl
theorem by21 : byOf Try.prog 21 = some 4 := by kernel_rfl
theorem ag21 : aggOf Try.prog 21 = some false := by kernel_rfl
theorem zr21 : zeroOf Try.prog 21 = some (.int .i32 0) := by kernel_rfl
theorem sz22 : szOf Try.prog 22 = some 1 := by kernel_rfl
theorem by22 : byOf Try.prog 22 = some 24 := by kernel_rfl
theorem ag22 : aggOf Try.prog 22 = some false := by kernel_rfl
theorem zr22 : zeroOf Try.prog 22 = some (.slice none 0 0) := by kernel_rfl
theorem sz23 : szOf Try.prog 23 = some 3 := by kernel_rfl
theorem by23 : byOf Try.prog 23 = some 40 := by kernel_rfl
theorem ag23 : aggOf Try.prog 23 = some true := by kernel_rfl
theorem eg23 : Try.prog.eqGuardType Try.prog.depth 23 = false := by kernel_rfl
theorem si23 : Try.prog.stoodInHeld 23 = false := by kernel_rfl
theorem zr23 : zeroOf Try.prog 23 = some (.agg #[(.int .i64 0), (.int .i64 0), (.slice none 0 0)]) := by kernel_rfl
theorem sz24 : szOf Try.prog 24 = some 3 := by kernel_rfl
theorem by24 : byOf Try.prog 24 = some 40 := by kernel_rfl
theorem ag24 : aggOf Try.prog 24 = some true := by kernel_rfl
theorem eg24 : Try.prog.eqGuardType Try.prog.depth 24 = false := by kernel_rfl
theorem si24 : Try.prog.stoodInHeld 24 = false := by kernel_rfl
theorem zr24 : zeroOf Try.prog 24 = some (.agg #[(.int .i64 0), (.int .i64 0), (.slice none 0 0)]) := by kernel_rfl
theorem sz25 : szOf Try.prog 25 = some 1 := by kernel_rfl
theorem by25 : byOf Try.prog 25 = some 8 := by kernel_rfl
theorem ag25 : aggOf Try.prog 25 = some false := by kernel_rfl
theorem zr25 : zeroOf Try.prog 25 = some .nilFunc := by kernel_rfl
theorem sz26 : szOf Try.prog 26 = some 3 := by kernel_rfl
theorem by26 : byOf Try.prog 26 = some 3 := by kernel_rfl
theorem ag26 : aggOf Try.prog 26 = some true := by kernel_rfl
theorem eg26 : Try.prog.eqGuardType Try.prog.depth 26 = false := by kernel_rfl
theorem zr26 : zeroOf Try.prog 26 = some (.agg #[(.int .u8 0), (.int .u8 0), (.int .u8 0)]) := by kernel_rfl
theorem sz27 : szOf Try.prog 27 = some 3 := by kernel_rfl
theorem by27 : byOf Try.prog 27 = some 24 := by kernel_rfl
theorem ag27 : aggOf Try.prog 27 = some true := by kernel_rfl
theorem eg27 : Try.prog.eqGuardType Try.prog.depth 27 = false := by kernel_rfl
theorem zr27 : zeroOf Try.prog 27 = some (.agg #[(.int .i64 0), (.int .i64 0), (.int .i64 0)]) := by kernel_rfl
theorem sz28 : szOf Try.prog 28 = some 16 := by kernel_rfl
theorem by28 : byOf Try.prog 28 = some 128 := by kernel_rfl
theorem ag28 : aggOf Try.prog 28 = some true := by kernel_rfl
theorem eg28 : Try.prog.eqGuardType Try.prog.depth 28 = false := by kernel_rfl
theorem zr28 : zeroOf Try.prog 28 = some (.agg #[(.int .i64 0), (.int .i64 0), (.int .i64 0), (.int .i64 0), (.int .i64 0), (.int .i64 0), (.int .i64 0), (.int .i64 0), (.int .i64 0), (.int .i64 0), (.int .i64 0), (.int .i64 0), (.int .i64 0), (.int .i64 0), (.int .i64 0), (.int .i64 0)]) := by kernel_rfl
theorem sz29 : szOf Try.prog 29 = some 26 := by kernel_rfl
theorem by29 : byOf Try.prog 29 = some 168 := by kernel_rfl
theorem ag29 : aggOf Try.prog 29 = some true := by kernel_rfl
theorem eg29 : Try.prog.eqGuardType Try.prog.depth 29 = false := by kernel_rfl
theorem si29 : Try.prog.stoodInHeld 29 = false := by kernel_rfl
theorem zr29 : zeroOf Try.prog 29 = some (.agg #[(.int .i64 0), (.int .u8 0), (.int .u8 0), (.int .u8 0), (.int .u8 0), (.int .u8 0), (.int .u8 0), (.int .i64 0), (.int .i64 0), (.int .i64 0), (.int .i64 0), (.int .i64 0), (.int .i64 0), (.int .i64 0), (.int .i64 0), (.int .i64 0), (.int .i64 0), (.int .i64 0), (.int .i64 0), (.int .i64 0), (.int .i64 0), (.int .i64 0), (.int .i64 0), (.int .i64 0), (.int .i64 0), (.int .i64 0)]) := by kernel_rfl
theorem sz30 : szOf Try.prog 30 = some 26 := by kernel_rfl
theorem by30 : byOf Try.prog 30 = some 168 := by kernel_rfl
theorem ag30 : aggOf Try.prog 30 = some true := by kernel_rfl
theorem eg30 : Try.prog.eqGuardType Try.prog.depth 30 = false := by kernel_rfl
theorem si30 : Try.prog.stoodInHeld 30 = false := by kernel_rfl
theorem zr30 : zeroOf Try.prog 30 = some (.agg #[(.int .i64 0), (.int .u8 0), (.int .u8 0), (.int .u8 0), (.int .u8 0), (.int .u8 0), (.int .u8 0), (.int .i64 0), (.int .i64 0), (.int .i64 0), (.int .i64 0), (.int .i64 0), (.int .i64 0), (.int .i64 0), (.int .i64 0), (.int .i64 0), (.int .i64 0), (.int .i64 0), (.int .i64 0), (.int .i64 0), (.int .i64 0), (.int .i64 0), (.int .i64 0), (.int .i64 0), (.int .i64 0), (.int .i64 0)]) := by kernel_rfl
theorem sz31 : szOf Try.prog 31 = some 1 := by kernel_rfl
theorem by31 : byOf Try.prog 31 = some 8 := by kernel_rfl
theorem ag31 : aggOf Try.prog 31 = some false := by kernel_rfl
theorem zr31 : zeroOf Try.prog 31 = some (.int .i64 0) := by kernel_rfl
theorem sz33 : szOf Try.prog 33 = some 1 := by kernel_rfl
theorem by33 : byOf Try.prog 33 = some 8 := by kernel_rfl
theorem ag33 : aggOf Try.prog 33 = some false := by kernel_rfl
theorem zr33 : zeroOf Try.prog 33 = some .nilFunc := by kernel_rfl
theorem sz34 : szOf Try.prog 34 = some 2 := by kernel_rfl
theorem by34 : byOf Try.prog 34 = some 16 := by kernel_rfl
theorem ag34 : aggOf Try.prog 34 = some true := by kernel_rfl
theorem eg34 : Try.prog.eqGuardType Try.prog.depth 34 = false := by kernel_rfl
theorem si34 : Try.prog.stoodInHeld 34 = false := by kernel_rfl
theorem zr34 : zeroOf Try.prog 34 = some (.agg #[(.int .i64 0), (.int .i64 0)]) := by kernel_rfl
theorem sz35 : szOf Try.prog 35 = some 2 := by kernel_rfl
theorem by35 : byOf Try.prog 35 = some 16 := by kernel_rfl
theorem ag35 : aggOf Try.prog 35 = some true := by kernel_rfl
theorem eg35 : Try.prog.eqGuardType Try.prog.depth 35 = false := by kernel_rfl
theorem si35 : Try.prog.stoodInHeld 35 = false := by kernel_rfl
theorem zr35 : zeroOf Try.prog 35 = some (.agg #[(.int .i64 0), (.int .i64 0)]) := by kernel_rfl
theorem sz36 : szOf Try.prog 36 = some 3 := by kernel_rfl
theorem by36 : byOf Try.prog 36 = some 40 := by kernel_rfl
theorem ag36 : aggOf Try.prog 36 = some true := by kernel_rfl
theorem eg36 : Try.prog.eqGuardType Try.prog.depth 36 = false := by kernel_rfl
theorem si36 : Try.prog.stoodInHeld 36 = false := by kernel_rfl
theorem zr36 : zeroOf Try.prog 36 = some (.agg #[(.int .i64 0), (.int .i64 0), (.slice none 0 0)]) := by kernel_rfl
theorem sz37 : szOf Try.prog 37 = some 3 := by kernel_rfl
theorem by37 : byOf Try.prog 37 = some 40 := by kernel_rfl
theorem ag37 : aggOf Try.prog 37 = some true := by kernel_rfl
theorem eg37 : Try.prog.eqGuardType Try.prog.depth 37 = false := by kernel_rfl
theorem si37 : Try.prog.stoodInHeld 37 = false := by kernel_rfl
theorem zr37 : zeroOf Try.prog 37 = some (.agg #[(.int .i64 0), (.int .i64 0), (.slice none 0 0)]) := by kernel_rfl
theorem sz38 : szOf Try.prog 38 = some 1 := by kernel_rfl
theorem by38 : byOf Try.prog 38 = some 8 := by kernel_rfl
theorem ag38 : aggOf Try.prog 38 = some false := by kernel_rfl
theorem zr38 : zeroOf Try.prog 38 = some .nilFunc := by kernel_rfl
theorem sz39 : szOf Try.prog 39 = some 1 := by kernel_rfl
theorem by39 : byOf Try.prog 39 = some 8 := by kernel_rfl
theorem ag39 : aggOf Try.prog 39 = some false := by kernel_rfl
theorem zr39 : zeroOf Try.prog 39 = some .nilFunc := by kernel_rfl
theorem sz40 : szOf Try.prog 40 = some 1 := by kernel_rfl
theorem by40 : byOf Try.prog 40 = some 8 := by kernel_rfl
theorem ag40 : aggOf Try.prog 40 = some false := by kernel_rfl
theorem zr40 : zeroOf Try.prog 40 = some .nilFunc := by kernel_rfl
theorem sz41 : szOf Try.prog 41 = some 1 := by kernel_rfl
theorem by41 : byOf Try.prog 41 = some 8 := by kernel_rfl
theorem ag41 : aggOf Try.prog 41 = some false := by kernel_rfl
theorem zr41 : zeroOf Try.prog 41 = some .nilFunc := by kernel_rfl
theorem sz42 : szOf Try.prog 42 = some 26 := by kernel_rfl
theorem by42 : byOf Try.prog 42 = some 168 := by kernel_rfl
theorem ag42 : aggOf Try.prog 42 = some true := by kernel_rfl
theorem eg42 : Try.prog.eqGuardType Try.prog.depth 42 = false := by kernel_rfl
theorem si42 : Try.prog.stoodInHeld 42 = false := by kernel_rfl
theorem zr42 : zeroOf Try.prog 42 = some (.agg #[(.int .i64 0), (.int .u8 0), (.int .u8 0), (.int .u8 0), (.int .u8 0), (.int .u8 0), (.int .u8 0), (.int .i64 0), (.int .i64 0), (.int .i64 0), (.int .i64 0), (.int .i64 0), (.int .i64 0), (.int .i64 0), (.int .i64 0), (.int .i64 0), (.int .i64 0), (.int .i64 0), (.int .i64 0), (.int .i64 0), (.int .i64 0), (.int .i64 0), (.int .i64 0), (.int .i64 0), (.int .i64 0), (.int .i64 0)]) := by kernel_rfl
theorem sz43 : szOf Try.prog 43 = some 1 := by kernel_rfl
theorem by43 : byOf Try.prog 43 = some 8 := by kernel_rfl
theorem ag43 : aggOf Try.prog 43 = some false := by kernel_rfl
theorem zr43 : zeroOf Try.prog 43 = some .nilFunc := by kernel_rfl
theorem sz44 : szOf Try.prog 44 = some 1 := by kernel_rfl
theorem by44 : byOf Try.prog 44 = some 8 := by kernel_rfl
theorem ag44 : aggOf Try.prog 44 = some false := by kernel_rfl
theorem zr44 : zeroOf Try.prog 44 = some .nilFunc := by kernel_rfl
theorem sz45 : szOf Try.prog 45 = some 1 := by kernel_rfl
theorem by45 : byOf Try.prog 45 = some 8 := by kernel_rfl
theorem ag45 : aggOf Try.prog 45 = some false := by kernel_rfl
theorem zr45 : zeroOf Try.prog 45 = some .nilFunc := by kernel_rfl
theorem sz46 : szOf Try.prog 46 = some 1 := by kernel_rfl
theorem by46 : byOf Try.prog 46 = some 8 := by kernel_rfl
theorem ag46 : aggOf Try.prog 46 = some false := by kernel_rfl
theorem zr46 : zeroOf Try.prog 46 = some .nilFunc := by kernel_rfl
theorem sz47 : szOf Try.prog 47 = some 1 := by kernel_rfl
theorem by47 : byOf Try.prog 47 = some 8 := by kernel_rfl
theorem ag47 : aggOf Try.prog 47 = some false := by kernel_rfl
theorem zr47 : zeroOf Try.prog 47 = some .nilFunc := by kernel_rfl
theorem sz48 : szOf Try.prog 48 = some 4 := by kernel_rfl
theorem by48 : byOf Try.prog 48 = some 32 := by kernel_rfl
theorem ag48 : aggOf Try.prog 48 = some true := by kernel_rfl
theorem eg48 : Try.prog.eqGuardType Try.prog.depth 48 = false := by kernel_rfl
theorem si48 : Try.prog.stoodInHeld 48 = false := by kernel_rfl
theorem zr48 : zeroOf Try.prog 48 = some (.agg #[(.int .i64 0), (.int .i64 0), (.int .i64 0), (.int .i64 0)]) := by kernel_rfl
theorem sz49 : szOf Try.prog 49 = some 4 := by kernel_rfl
theorem by49 : byOf Try.prog 49 = some 32 := by kernel_rfl
theorem ag49 : aggOf Try.prog 49 = some true := by kernel_rfl
theorem eg49 : Try.prog.eqGuardType Try.prog.depth 49 = false := by kernel_rfl
theorem si49 : Try.prog.stoodInHeld 49 = false := by kernel_rfl
theorem zr49 : zeroOf Try.prog 49 = some (.agg #[(.int .i64 0), (.int .i64 0), (.int .i64 0), (.int .i64 0)]) := by kernel_rfl
theorem sz51 : szOf Try.prog 51 = some 1 := by kernel_rfl
theorem by51 : byOf Try.prog 51 = some 8 := by kernel_rfl
theorem ag51 : aggOf Try.prog 51 = some false := by kernel_rfl
theorem zr51 : zeroOf Try.prog 51 = some .nilFunc := by kernel_rfl
theorem sz52 : szOf Try.prog 52 = some 4 := by kernel_rfl
theorem by52 : byOf Try.prog 52 = some 32 := by kernel_rfl
theorem ag52 : aggOf Try.prog 52 = some true := by kernel_rfl
theorem eg52 : Try.prog.eqGuardType Try.prog.depth 52 = false := by kernel_rfl
theorem si52 : Try.prog.stoodInHeld 52 = false := by kernel_rfl
theorem zr52 : zeroOf Try.prog 52 = some (.agg #[(.int .i64 0), (.int .i64 0), (.int .i64 0), (.int .i64 0)]) := by kernel_rfl
theorem sz54 : szOf Try.prog 54 = some 1 := by kernel_rfl
theorem by54 : byOf Try.prog 54 = some 8 := by kernel_rfl
theorem ag54 : aggOf Try.prog 54 = some false := by kernel_rfl
theorem zr54 : zeroOf Try.prog 54 = some .nilFunc := by kernel_rfl
theorem sz56 : szOf Try.prog 56 = some 1 := by kernel_rfl
theorem by56 : byOf Try.prog 56 = some 8 := by kernel_rfl
theorem ag56 : aggOf Try.prog 56 = some false := by kernel_rfl
theorem zr56 : zeroOf Try.prog 56 = some .nilFunc := by kernel_rfl
theorem sz57 : szOf Try.prog 57 = some 1 := by kernel_rfl
theorem by57 : byOf Try.prog 57 = some 8 := by kernel_rfl
theorem ag57 : aggOf Try.prog 57 = some false := by kernel_rfl
theorem zr57 : zeroOf Try.prog 57 = some .nilFunc := by kernel_rfl
theorem sz58 : szOf Try.prog 58 = some 1 := by kernel_rfl
theorem by58 : byOf Try.prog 58 = some 8 := by kernel_rfl
theorem ag58 : aggOf Try.prog 58 = some false := by kernel_rfl
theorem zr58 : zeroOf Try.prog 58 = some .nilFunc := by kernel_rfl
theorem sz59 : szOf Try.prog 59 = some 1 := by kernel_rfl
theorem by59 : byOf Try.prog 59 = some 8 := by kernel_rfl
theorem ag59 : aggOf Try.prog 59 = some false := by kernel_rfl
theorem zr59 : zeroOf Try.prog 59 = some .nilFunc := by kernel_rfl
theorem sz60 : szOf Try.prog 60 = some 1 := by kernel_rfl
theorem by60 : byOf Try.prog 60 = some 8 := by kernel_rfl
theorem ag60 : aggOf Try.prog 60 = some false := by kernel_rfl
theorem zr60 : zeroOf Try.prog 60 = some .nilFunc := by kernel_rfl
theorem sz61 : szOf Try.prog 61 = some 1 := by kernel_rfl
theorem by61 : byOf Try.prog 61 = some 8 := by kernel_rfl
theorem ag61 : aggOf Try.prog 61 = some false := by kernel_rfl
theorem zr61 : zeroOf Try.prog 61 = some .nilFunc := by kernel_rfl
theorem sz62 : szOf Try.prog 62 = some 1 := by kernel_rfl
theorem by62 : byOf Try.prog 62 = some 8 := by kernel_rfl
theorem ag62 : aggOf Try.prog 62 = some false := by kernel_rfl
theorem zr62 : zeroOf Try.prog 62 = some .nilFunc := by kernel_rfl
theorem sz63 : szOf Try.prog 63 = some 1 := by kernel_rfl
theorem by63 : byOf Try.prog 63 = some 8 := by kernel_rfl
theorem ag63 : aggOf Try.prog 63 = some false := by kernel_rfl
theorem zr63 : zeroOf Try.prog 63 = some .nilFunc := by kernel_rfl
theorem sz66 : szOf Try.prog 66 = some 0 := by kernel_rfl
theorem by66 : byOf Try.prog 66 = some 0 := by kernel_rfl
theorem ag66 : aggOf Try.prog 66 = some true := by kernel_rfl
theorem eg66 : Try.prog.eqGuardType Try.prog.depth 66 = false := by kernel_rfl
theorem zr66 : zeroOf Try.prog 66 = some (.agg #[]) := by kernel_rfl
theorem sz69 : szOf Try.prog 69 = some 1 := by kernel_rfl
theorem by69 : byOf Try.prog 69 = some 4 := by kernel_rfl
theorem ag69 : aggOf Try.prog 69 = some false := by kernel_rfl
theorem zr69 : zeroOf Try.prog 69 = some (.int .u32 0) := by kernel_rfl
theorem sz72 : szOf Try.prog 72 = some 1 := by kernel_rfl
theorem by72 : byOf Try.prog 72 = some 8 := by kernel_rfl
theorem ag72 : aggOf Try.prog 72 = some false := by kernel_rfl
theorem zr72 : zeroOf Try.prog 72 = some .nilFunc := by kernel_rfl
theorem sz73 : szOf Try.prog 73 = some 1 := by kernel_rfl
theorem by73 : byOf Try.prog 73 = some 8 := by kernel_rfl
theorem ag73 : aggOf Try.prog 73 = some false := by kernel_rfl
theorem zr73 : zeroOf Try.prog 73 = some (.pointer none) := by kernel_rfl
theorem sz78 : szOf Try.prog 78 = some 1 := by kernel_rfl
theorem by78 : byOf Try.prog 78 = some 8 := by kernel_rfl
theorem ag78 : aggOf Try.prog 78 = some false := by kernel_rfl
theorem zr78 : zeroOf Try.prog 78 = some (.pointer none) := by kernel_rfl
end Go.Proofs.Ythokogkeahcepaa
