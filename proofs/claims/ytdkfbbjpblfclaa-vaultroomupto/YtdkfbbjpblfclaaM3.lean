/- Walks and facts of this seat's program over abstract states, printed by programs of mine; no conditions but those that each theorem names. -/
import Derived.Test.YtdkfbbjpblfclaaM2
import Derived.Test.YtdkfbbjpblfclaaProg
import Derived.ScopeJumps
import Derived.Scope
import Derived.JoinedCond
import Derived.LaidMore
import Derived.Stop.Joined
/-
  FACTS on the types of this seat's program, written by a program of mine (gen_facts.py).
-/
set_option maxRecDepth 100000
namespace Go.Proofs.Ytdkfbbjpblfclaa
open Go Go.Eng
theorem fol : Try.prog.follows .mixedOrders = true := by kernel_rfl
theorem sz1 : szOf Try.prog 1 = some 1 := by kernel_rfl
theorem by1 : byOf Try.prog 1 = some 8 := by kernel_rfl
theorem ag1 : aggOf Try.prog 1 = some false := by kernel_rfl
theorem zr1 : zeroOf Try.prog 1 = some .nilFunc := by kernel_rfl
theorem sz2 : szOf Try.prog 2 = some 1 := by kernel_rfl
theorem by2 : byOf Try.prog 2 = some 8 := by kernel_rfl
theorem ag2 : aggOf Try.prog 2 = some false := by kernel_rfl
theorem zr2 : zeroOf Try.prog 2 = some (.int .i64 0) := by kernel_rfl
theorem sz3 : szOf Try.prog 3 = some 1 := by kernel_rfl
theorem by3 : byOf Try.prog 3 = some 8 := by kernel_rfl
theorem ag3 : aggOf Try.prog 3 = some false := by kernel_rfl
theorem zr3 : zeroOf Try.prog 3 = some (.int .i64 0) := by kernel_rfl
theorem sz4 : szOf Try.prog 4 = some 1 := by kernel_rfl
theorem by4 : byOf Try.prog 4 = some 1 := by kernel_rfl
theorem ag4 : aggOf Try.prog 4 = some false := by kernel_rfl
theorem zr4 : zeroOf Try.prog 4 = some (.bool false) := by kernel_rfl
theorem sz5 : szOf Try.prog 5 = some 1 := by kernel_rfl
theorem by5 : byOf Try.prog 5 = some 1 := by kernel_rfl
theorem ag5 : aggOf Try.prog 5 = some false := by kernel_rfl
theorem zr5 : zeroOf Try.prog 5 = some (.int .u8 0) := by kernel_rfl
theorem sz9 : szOf Try.prog 9 = some 1 := by kernel_rfl
theorem by9 : byOf Try.prog 9 = some 16 := by kernel_rfl
theorem ag9 : aggOf Try.prog 9 = some false := by kernel_rfl
theorem zr9 : zeroOf Try.prog 9 = some (.string ByteArray.empty) := by kernel_rfl
theorem sz12 : szOf Try.prog 12 = some 1 := by kernel_rfl
theorem by12 : byOf Try.prog 12 = some 8 := by kernel_rfl
theorem ag12 : aggOf Try.prog 12 = some false := by kernel_rfl
theorem zr12 : zeroOf Try.prog 12 = some (.int .u64 0) := by kernel_rfl
theorem sz15 : szOf Try.prog 15 = some 1 := by kernel_rfl
theorem by15 : byOf Try.prog 15 = some 8 := by kernel_rfl
theorem ag15 : aggOf Try.prog 15 = some false := by kernel_rfl
theorem zr15 : zeroOf Try.prog 15 = some (.pointer none) := by kernel_rfl
theorem sz16 : szOf Try.prog 16 = some 1 := by kernel_rfl
theorem by16 : byOf Try.prog 16 = some 8 := by kernel_rfl
theorem ag16 : aggOf Try.prog 16 = some false := by kernel_rfl
theorem zr16 : zeroOf Try.prog 16 = some (.pointer none) := by kernel_rfl
theorem sz17 : szOf Try.prog 17 = some 1 := by kernel_rfl
theorem by17 : byOf Try.prog 17 = some 8 := by kernel_rfl
theorem ag17 : aggOf Try.prog 17 = some false := by kernel_rfl
theorem zr17 : zeroOf Try.prog 17 = some (.pointer none) := by kernel_rfl
theorem sz20 : szOf Try.prog 20 = some 1 := by kernel_rfl
theorem by20 : byOf Try.prog 20 = some 16 := by kernel_rfl
theorem ag20 : aggOf Try.prog 20 = some false := by kernel_rfl
theorem zr20 : zeroOf Try.prog 20 = some .nilIface := by kernel_rfl
theorem sz21 : szOf Try.prog 21 = some 1 := by kernel_rfl
theorem by21 : byOf Try.prog 21 = some 4 := by kernel_rfl
theorem ag21 : aggOf Try.prog 21 = some false := by kernel_rfl
theorem zr21 : zeroOf Try.prog 21 = some (.int .i32 0) := by kernel_rfl
theorem sz22 : szOf Try.prog 22 = some 1 := by kernel_rfl
theorem by22 : byOf Try.prog 22 = some 24 := by kernel_rfl
theorem ag22 : aggOf Try.prog 22 = some false := by kernel_rfl
theorem zr22 : zeroOf Try.prog 22 = some (.slice none 0 0) := by kernel_rfl
theorem sz23 : szOf Try.prog 23 = some 1 := by kernel_rfl
theorem by23 : byOf Try.prog 23 = some 8 := by kernel_rfl
theorem ag23 : aggOf Try.prog 23 = some false := by kernel_rfl
theorem zr23 : zeroOf Try.prog 23 = some (.int .u64 0) := by kernel_rfl
theorem sz24 : szOf Try.prog 24 = some 1 := by kernel_rfl
theorem by24 : byOf Try.prog 24 = some 8 := by kernel_rfl
theorem ag24 : aggOf Try.prog 24 = some false := by kernel_rfl
theorem zr24 : zeroOf Try.prog 24 = some (.pointer none) := by kernel_rfl
theorem sz25 : szOf Try.prog 25 = some 1 := by kernel_rfl
theorem by25 : byOf Try.prog 25 = some 8 := by kernel_rfl
theorem ag25 : aggOf Try.prog 25 = some false := by kernel_rfl
theorem zr25 : zeroOf Try.prog 25 = some (.int .i64 0) := by kernel_rfl
theorem sz27 : szOf Try.prog 27 = some 1 := by kernel_rfl
theorem by27 : byOf Try.prog 27 = some 8 := by kernel_rfl
theorem ag27 : aggOf Try.prog 27 = some false := by kernel_rfl
theorem zr27 : zeroOf Try.prog 27 = some .nilFunc := by kernel_rfl
theorem sz28 : szOf Try.prog 28 = some 1 := by kernel_rfl
theorem by28 : byOf Try.prog 28 = some 8 := by kernel_rfl
theorem ag28 : aggOf Try.prog 28 = some false := by kernel_rfl
theorem zr28 : zeroOf Try.prog 28 = some (.pointer none) := by kernel_rfl
theorem sz30 : szOf Try.prog 30 = some 1 := by kernel_rfl
theorem by30 : byOf Try.prog 30 = some 8 := by kernel_rfl
theorem ag30 : aggOf Try.prog 30 = some false := by kernel_rfl
theorem zr30 : zeroOf Try.prog 30 = some .nilFunc := by kernel_rfl
theorem sz31 : szOf Try.prog 31 = some 1 := by kernel_rfl
theorem by31 : byOf Try.prog 31 = some 8 := by kernel_rfl
theorem ag31 : aggOf Try.prog 31 = some false := by kernel_rfl
theorem zr31 : zeroOf Try.prog 31 = some .nilFunc := by kernel_rfl
theorem sz32 : szOf Try.prog 32 = some 1 := by kernel_rfl
theorem by32 : byOf Try.prog 32 = some 8 := by kernel_rfl
theorem ag32 : aggOf Try.prog 32 = some false := by kernel_rfl
theorem zr32 : zeroOf Try.prog 32 = some (.map none) := by kernel_rfl
theorem sz33 : szOf Try.prog 33 = some 1 := by kernel_rfl
theorem by33 : byOf Try.prog 33 = some 8 := by kernel_rfl
theorem ag33 : aggOf Try.prog 33 = some false := by kernel_rfl
theorem zr33 : zeroOf Try.prog 33 = some (.map none) := by kernel_rfl
theorem sz34 : szOf Try.prog 34 = some 1 := by kernel_rfl
theorem by34 : byOf Try.prog 34 = some 2 := by kernel_rfl
theorem ag34 : aggOf Try.prog 34 = some false := by kernel_rfl
theorem zr34 : zeroOf Try.prog 34 = some (.int .u16 0) := by kernel_rfl
theorem sz35 : szOf Try.prog 35 = some 1 := by kernel_rfl
theorem by35 : byOf Try.prog 35 = some 24 := by kernel_rfl
theorem ag35 : aggOf Try.prog 35 = some false := by kernel_rfl
theorem zr35 : zeroOf Try.prog 35 = some (.slice none 0 0) := by kernel_rfl
theorem sz36 : szOf Try.prog 36 = some 1 := by kernel_rfl
theorem by36 : byOf Try.prog 36 = some 8 := by kernel_rfl
theorem ag36 : aggOf Try.prog 36 = some false := by kernel_rfl
theorem zr36 : zeroOf Try.prog 36 = some .nilFunc := by kernel_rfl
theorem sz37 : szOf Try.prog 37 = some 32 := by kernel_rfl
theorem by37 : byOf Try.prog 37 = some 32 := by kernel_rfl
theorem ag37 : aggOf Try.prog 37 = some true := by kernel_rfl
theorem eg37 : Try.prog.eqGuardType Try.prog.depth 37 = false := by kernel_rfl
theorem zr37 : zeroOf Try.prog 37 = some (.agg #[(.int .u8 0), (.int .u8 0), (.int .u8 0), (.int .u8 0), (.int .u8 0), (.int .u8 0), (.int .u8 0), (.int .u8 0), (.int .u8 0), (.int .u8 0), (.int .u8 0), (.int .u8 0), (.int .u8 0), (.int .u8 0), (.int .u8 0), (.int .u8 0), (.int .u8 0), (.int .u8 0), (.int .u8 0), (.int .u8 0), (.int .u8 0), (.int .u8 0), (.int .u8 0), (.int .u8 0), (.int .u8 0), (.int .u8 0), (.int .u8 0), (.int .u8 0), (.int .u8 0), (.int .u8 0), (.int .u8 0), (.int .u8 0)]) := by kernel_rfl
theorem sz38 : szOf Try.prog 38 = some 32 := by kernel_rfl
theorem by38 : byOf Try.prog 38 = some 32 := by kernel_rfl
theorem ag38 : aggOf Try.prog 38 = some true := by kernel_rfl
theorem eg38 : Try.prog.eqGuardType Try.prog.depth 38 = false := by kernel_rfl
theorem zr38 : zeroOf Try.prog 38 = some (.agg #[(.int .u8 0), (.int .u8 0), (.int .u8 0), (.int .u8 0), (.int .u8 0), (.int .u8 0), (.int .u8 0), (.int .u8 0), (.int .u8 0), (.int .u8 0), (.int .u8 0), (.int .u8 0), (.int .u8 0), (.int .u8 0), (.int .u8 0), (.int .u8 0), (.int .u8 0), (.int .u8 0), (.int .u8 0), (.int .u8 0), (.int .u8 0), (.int .u8 0), (.int .u8 0), (.int .u8 0), (.int .u8 0), (.int .u8 0), (.int .u8 0), (.int .u8 0), (.int .u8 0), (.int .u8 0), (.int .u8 0), (.int .u8 0)]) := by kernel_rfl
theorem sz39 : szOf Try.prog 39 = some 1 := by kernel_rfl
theorem by39 : byOf Try.prog 39 = some 8 := by kernel_rfl
theorem ag39 : aggOf Try.prog 39 = some false := by kernel_rfl
theorem zr39 : zeroOf Try.prog 39 = some .nilFunc := by kernel_rfl
theorem sz40 : szOf Try.prog 40 = some 1 := by kernel_rfl
theorem by40 : byOf Try.prog 40 = some 8 := by kernel_rfl
theorem ag40 : aggOf Try.prog 40 = some false := by kernel_rfl
theorem zr40 : zeroOf Try.prog 40 = some .nilFunc := by kernel_rfl
theorem sz42 : szOf Try.prog 42 = some 1 := by kernel_rfl
theorem by42 : byOf Try.prog 42 = some 8 := by kernel_rfl
theorem ag42 : aggOf Try.prog 42 = some false := by kernel_rfl
theorem zr42 : zeroOf Try.prog 42 = some .nilFunc := by kernel_rfl
theorem sz44 : szOf Try.prog 44 = some 1 := by kernel_rfl
theorem by44 : byOf Try.prog 44 = some 8 := by kernel_rfl
theorem ag44 : aggOf Try.prog 44 = some false := by kernel_rfl
theorem zr44 : zeroOf Try.prog 44 = some .nilFunc := by kernel_rfl
theorem sz45 : szOf Try.prog 45 = some 1 := by kernel_rfl
theorem by45 : byOf Try.prog 45 = some 8 := by kernel_rfl
theorem ag45 : aggOf Try.prog 45 = some false := by kernel_rfl
theorem zr45 : zeroOf Try.prog 45 = some .nilFunc := by kernel_rfl
theorem sz46 : szOf Try.prog 46 = some 1 := by kernel_rfl
theorem by46 : byOf Try.prog 46 = some 24 := by kernel_rfl
theorem ag46 : aggOf Try.prog 46 = some false := by kernel_rfl
theorem zr46 : zeroOf Try.prog 46 = some (.slice none 0 0) := by kernel_rfl
theorem sz47 : szOf Try.prog 47 = some 1 := by kernel_rfl
theorem by47 : byOf Try.prog 47 = some 8 := by kernel_rfl
theorem ag47 : aggOf Try.prog 47 = some false := by kernel_rfl
theorem zr47 : zeroOf Try.prog 47 = some (.map none) := by kernel_rfl
theorem sz48 : szOf Try.prog 48 = some 1 := by kernel_rfl
theorem by48 : byOf Try.prog 48 = some 8 := by kernel_rfl
theorem ag48 : aggOf Try.prog 48 = some false := by kernel_rfl
theorem zr48 : zeroOf Try.prog 48 = some (.map none) := by kernel_rfl
theorem sz49 : szOf Try.prog 49 = some 1 := by kernel_rfl
theorem by49 : byOf Try.prog 49 = some 24 := by kernel_rfl
theorem ag49 : aggOf Try.prog 49 = some false := by kernel_rfl
theorem zr49 : zeroOf Try.prog 49 = some (.slice none 0 0) := by kernel_rfl
theorem sz50 : szOf Try.prog 50 = some 128 := by kernel_rfl
theorem by50 : byOf Try.prog 50 = some 128 := by kernel_rfl
theorem ag50 : aggOf Try.prog 50 = some true := by kernel_rfl
theorem eg50 : Try.prog.eqGuardType Try.prog.depth 50 = false := by kernel_rfl
theorem zr50 : zeroOf Try.prog 50 = some (.agg #[(.int .u8 0), (.int .u8 0), (.int .u8 0), (.int .u8 0), (.int .u8 0), (.int .u8 0), (.int .u8 0), (.int .u8 0), (.int .u8 0), (.int .u8 0), (.int .u8 0), (.int .u8 0), (.int .u8 0), (.int .u8 0), (.int .u8 0), (.int .u8 0), (.int .u8 0), (.int .u8 0), (.int .u8 0), (.int .u8 0), (.int .u8 0), (.int .u8 0), (.int .u8 0), (.int .u8 0), (.int .u8 0), (.int .u8 0), (.int .u8 0), (.int .u8 0), (.int .u8 0), (.int .u8 0), (.int .u8 0), (.int .u8 0), (.int .u8 0), (.int .u8 0), (.int .u8 0), (.int .u8 0), (.int .u8 0), (.int .u8 0), (.int .u8 0), (.int .u8 0), (.int .u8 0), (.int .u8 0), (.int .u8 0), (.int .u8 0), (.int .u8 0), (.int .u8 0), (.int .u8 0), (.int .u8 0), (.int .u8 0), (.int .u8 0), (.int .u8 0), (.int .u8 0), (.int .u8 0), (.int .u8 0), (.int .u8 0), (.int .u8 0), (.int .u8 0), (.int .u8 0), (.int .u8 0), (.int .u8 0), (.int .u8 0), (.int .u8 0), (.int .u8 0), (.int .u8 0), (.int .u8 0), (.int .u8 0), (.int .u8 0), (.int .u8 0), (.int .u8 0), (.int .u8 0), (.int .u8 0), (.int .u8 0), (.int .u8 0), (.int .u8 0), (.int .u8 0), (.int .u8 0), (.int .u8 0), (.int .u8 0), (.int .u8 0), (.int .u8 0), (.int .u8 0), (.int .u8 0), (.int .u8 0), (.int .u8 0), (.int .u8 0), (.int .u8 0), (.int .u8 0), (.int .u8 0), (.int .u8 0), (.int .u8 0), (.int .u8 0), (.int .u8 0), (.int .u8 0), (.int .u8 0), (.int .u8 0), (.int .u8 0), (.int .u8 0), (.int .u8 0), (.int .u8 0), (.int .u8 0), (.int .u8 0), (.int .u8 0), (.int .u8 0), (.int .u8 0), (.int .u8 0), (.int .u8 0), (.int .u8 0), (.int .u8 0), (.int .u8 0), (.int .u8 0), (.int .u8 0), (.int .u8 0), (.int .u8 0), (.int .u8 0), (.int .u8 0), (.int .u8 0), (.int .u8 0), (.int .u8 0), (.int .u8 0), (.int .u8 0), (.int .u8 0), (.int .u8 0), (.int .u8 0), (.int .u8 0), (.int .u8 0), (.int .u8 0), (.int .u8 0), (.int .u8 0)]) := by kernel_rfl
theorem sz51 : szOf Try.prog 51 = some 136 := by kernel_rfl
theorem by51 : byOf Try.prog 51 = some 240 := by kernel_rfl
theorem ag51 : aggOf Try.prog 51 = some true := by kernel_rfl
theorem eg51 : Try.prog.eqGuardType Try.prog.depth 51 = false := by kernel_rfl
theorem si51 : Try.prog.stoodInHeld 51 = false := by kernel_rfl
theorem zr51 : zeroOf Try.prog 51 = some (.agg #[(.int .i64 0), (.int .i64 0), (.int .u8 0), (.slice none 0 0), (.slice none 0 0), (.int .i64 0), (.slice none 0 0), (.int .i64 0), (.int .u8 0), (.int .u8 0), (.int .u8 0), (.int .u8 0), (.int .u8 0), (.int .u8 0), (.int .u8 0), (.int .u8 0), (.int .u8 0), (.int .u8 0), (.int .u8 0), (.int .u8 0), (.int .u8 0), (.int .u8 0), (.int .u8 0), (.int .u8 0), (.int .u8 0), (.int .u8 0), (.int .u8 0), (.int .u8 0), (.int .u8 0), (.int .u8 0), (.int .u8 0), (.int .u8 0), (.int .u8 0), (.int .u8 0), (.int .u8 0), (.int .u8 0), (.int .u8 0), (.int .u8 0), (.int .u8 0), (.int .u8 0), (.int .u8 0), (.int .u8 0), (.int .u8 0), (.int .u8 0), (.int .u8 0), (.int .u8 0), (.int .u8 0), (.int .u8 0), (.int .u8 0), (.int .u8 0), (.int .u8 0), (.int .u8 0), (.int .u8 0), (.int .u8 0), (.int .u8 0), (.int .u8 0), (.int .u8 0), (.int .u8 0), (.int .u8 0), (.int .u8 0), (.int .u8 0), (.int .u8 0), (.int .u8 0), (.int .u8 0), (.int .u8 0), (.int .u8 0), (.int .u8 0), (.int .u8 0), (.int .u8 0), (.int .u8 0), (.int .u8 0), (.int .u8 0), (.int .u8 0), (.int .u8 0), (.int .u8 0), (.int .u8 0), (.int .u8 0), (.int .u8 0), (.int .u8 0), (.int .u8 0), (.int .u8 0), (.int .u8 0), (.int .u8 0), (.int .u8 0), (.int .u8 0), (.int .u8 0), (.int .u8 0), (.int .u8 0), (.int .u8 0), (.int .u8 0), (.int .u8 0), (.int .u8 0), (.int .u8 0), (.int .u8 0), (.int .u8 0), (.int .u8 0), (.int .u8 0), (.int .u8 0), (.int .u8 0), (.int .u8 0), (.int .u8 0), (.int .u8 0), (.int .u8 0), (.int .u8 0), (.int .u8 0), (.int .u8 0), (.int .u8 0), (.int .u8 0), (.int .u8 0), (.int .u8 0), (.int .u8 0), (.int .u8 0), (.int .u8 0), (.int .u8 0), (.int .u8 0), (.int .u8 0), (.int .u8 0), (.int .u8 0), (.int .u8 0), (.int .u8 0), (.int .u8 0), (.int .u8 0), (.int .u8 0), (.int .u8 0), (.int .u8 0), (.int .u8 0), (.int .u8 0), (.int .u8 0), (.int .u8 0), (.int .u8 0), (.int .u8 0), (.int .u8 0), (.int .u8 0), (.int .u8 0), (.int .u8 0), (.int .u8 0)]) := by kernel_rfl
theorem sz52 : szOf Try.prog 52 = some 136 := by kernel_rfl
theorem by52 : byOf Try.prog 52 = some 240 := by kernel_rfl
theorem ag52 : aggOf Try.prog 52 = some true := by kernel_rfl
theorem eg52 : Try.prog.eqGuardType Try.prog.depth 52 = false := by kernel_rfl
theorem si52 : Try.prog.stoodInHeld 52 = false := by kernel_rfl
theorem zr52 : zeroOf Try.prog 52 = some (.agg #[(.int .i64 0), (.int .i64 0), (.int .u8 0), (.slice none 0 0), (.slice none 0 0), (.int .i64 0), (.slice none 0 0), (.int .i64 0), (.int .u8 0), (.int .u8 0), (.int .u8 0), (.int .u8 0), (.int .u8 0), (.int .u8 0), (.int .u8 0), (.int .u8 0), (.int .u8 0), (.int .u8 0), (.int .u8 0), (.int .u8 0), (.int .u8 0), (.int .u8 0), (.int .u8 0), (.int .u8 0), (.int .u8 0), (.int .u8 0), (.int .u8 0), (.int .u8 0), (.int .u8 0), (.int .u8 0), (.int .u8 0), (.int .u8 0), (.int .u8 0), (.int .u8 0), (.int .u8 0), (.int .u8 0), (.int .u8 0), (.int .u8 0), (.int .u8 0), (.int .u8 0), (.int .u8 0), (.int .u8 0), (.int .u8 0), (.int .u8 0), (.int .u8 0), (.int .u8 0), (.int .u8 0), (.int .u8 0), (.int .u8 0), (.int .u8 0), (.int .u8 0), (.int .u8 0), (.int .u8 0), (.int .u8 0), (.int .u8 0), (.int .u8 0), (.int .u8 0), (.int .u8 0), (.int .u8 0), (.int .u8 0), (.int .u8 0), (.int .u8 0), (.int .u8 0), (.int .u8 0), (.int .u8 0), (.int .u8 0), (.int .u8 0), (.int .u8 0), (.int .u8 0), (.int .u8 0), (.int .u8 0), (.int .u8 0), (.int .u8 0), (.int .u8 0), (.int .u8 0), (.int .u8 0), (.int .u8 0), (.int .u8 0), (.int .u8 0), (.int .u8 0), (.int .u8 0), (.int .u8 0), (.int .u8 0), (.int .u8 0), (.int .u8 0), (.int .u8 0), (.int .u8 0), (.int .u8 0), (.int .u8 0), (.int .u8 0), (.int .u8 0), (.int .u8 0), (.int .u8 0), (.int .u8 0), (.int .u8 0), (.int .u8 0), (.int .u8 0), (.int .u8 0), (.int .u8 0), (.int .u8 0), (.int .u8 0), (.int .u8 0), (.int .u8 0), (.int .u8 0), (.int .u8 0), (.int .u8 0), (.int .u8 0), (.int .u8 0), (.int .u8 0), (.int .u8 0), (.int .u8 0), (.int .u8 0), (.int .u8 0), (.int .u8 0), (.int .u8 0), (.int .u8 0), (.int .u8 0), (.int .u8 0), (.int .u8 0), (.int .u8 0), (.int .u8 0), (.int .u8 0), (.int .u8 0), (.int .u8 0), (.int .u8 0), (.int .u8 0), (.int .u8 0), (.int .u8 0), (.int .u8 0), (.int .u8 0), (.int .u8 0), (.int .u8 0), (.int .u8 0), (.int .u8 0), (.int .u8 0), (.int .u8 0)]) := by kernel_rfl
theorem sz53 : szOf Try.prog 53 = some 1 := by kernel_rfl
theorem by53 : byOf Try.prog 53 = some 8 := by kernel_rfl
theorem ag53 : aggOf Try.prog 53 = some false := by kernel_rfl
theorem zr53 : zeroOf Try.prog 53 = some .nilFunc := by kernel_rfl
theorem sz54 : szOf Try.prog 54 = some 1 := by kernel_rfl
theorem by54 : byOf Try.prog 54 = some 8 := by kernel_rfl
theorem ag54 : aggOf Try.prog 54 = some false := by kernel_rfl
theorem zr54 : zeroOf Try.prog 54 = some .nilFunc := by kernel_rfl
theorem sz56 : szOf Try.prog 56 = some 1 := by kernel_rfl
theorem by56 : byOf Try.prog 56 = some 24 := by kernel_rfl
theorem ag56 : aggOf Try.prog 56 = some false := by kernel_rfl
theorem zr56 : zeroOf Try.prog 56 = some (.slice none 0 0) := by kernel_rfl
theorem sz57 : szOf Try.prog 57 = some 1 := by kernel_rfl
theorem by57 : byOf Try.prog 57 = some 24 := by kernel_rfl
theorem ag57 : aggOf Try.prog 57 = some false := by kernel_rfl
theorem zr57 : zeroOf Try.prog 57 = some (.slice none 0 0) := by kernel_rfl
theorem sz58 : szOf Try.prog 58 = some 1 := by kernel_rfl
theorem by58 : byOf Try.prog 58 = some 24 := by kernel_rfl
theorem ag58 : aggOf Try.prog 58 = some false := by kernel_rfl
theorem zr58 : zeroOf Try.prog 58 = some (.slice none 0 0) := by kernel_rfl
theorem sz60 : szOf Try.prog 60 = some 1 := by kernel_rfl
theorem by60 : byOf Try.prog 60 = some 8 := by kernel_rfl
theorem ag60 : aggOf Try.prog 60 = some false := by kernel_rfl
theorem zr60 : zeroOf Try.prog 60 = some .nilFunc := by kernel_rfl
theorem sz61 : szOf Try.prog 61 = some 1 := by kernel_rfl
theorem by61 : byOf Try.prog 61 = some 8 := by kernel_rfl
theorem ag61 : aggOf Try.prog 61 = some false := by kernel_rfl
theorem zr61 : zeroOf Try.prog 61 = some .nilFunc := by kernel_rfl
theorem sz62 : szOf Try.prog 62 = some 1 := by kernel_rfl
theorem by62 : byOf Try.prog 62 = some 8 := by kernel_rfl
theorem ag62 : aggOf Try.prog 62 = some false := by kernel_rfl
theorem zr62 : zeroOf Try.prog 62 = some .nilFunc := by kernel_rfl
theorem sz63 : szOf Try.prog 63 = some 1 := by kernel_rfl
theorem by63 : byOf Try.prog 63 = some 8 := by kernel_rfl
theorem ag63 : aggOf Try.prog 63 = some false := by kernel_rfl
theorem zr63 : zeroOf Try.prog 63 = some .nilFunc := by kernel_rfl
theorem sz64 : szOf Try.prog 64 = some 1 := by kernel_rfl
theorem by64 : byOf Try.prog 64 = some 8 := by kernel_rfl
theorem ag64 : aggOf Try.prog 64 = some false := by kernel_rfl
theorem zr64 : zeroOf Try.prog 64 = some .nilFunc := by kernel_rfl
theorem sz65 : szOf Try.prog 65 = some 1 := by kernel_rfl
theorem by65 : byOf Try.prog 65 = some 8 := by kernel_rfl
theorem ag65 : aggOf Try.prog 65 = some false := by kernel_rfl
theorem zr65 : zeroOf Try.prog 65 = some .nilFunc := by kernel_rfl
theorem sz66 : szOf Try.prog 66 = some 1 := by kernel_rfl
theorem by66 : byOf Try.prog 66 = some 8 := by kernel_rfl
theorem ag66 : aggOf Try.prog 66 = some false := by kernel_rfl
theorem zr66 : zeroOf Try.prog 66 = some .nilFunc := by kernel_rfl
theorem sz67 : szOf Try.prog 67 = some 1 := by kernel_rfl
theorem by67 : byOf Try.prog 67 = some 8 := by kernel_rfl
theorem ag67 : aggOf Try.prog 67 = some false := by kernel_rfl
theorem zr67 : zeroOf Try.prog 67 = some .nilFunc := by kernel_rfl
theorem sz68 : szOf Try.prog 68 = some 3 := by kernel_rfl
theorem by68 : byOf Try.prog 68 = some 24 := by kernel_rfl
theorem ag68 : aggOf Try.prog 68 = some true := by kernel_rfl
theorem eg68 : Try.prog.eqGuardType Try.prog.depth 68 = false := by kernel_rfl
theorem si68 : Try.prog.stoodInHeld 68 = false := by kernel_rfl
theorem zr68 : zeroOf Try.prog 68 = some (.agg #[(.int .i64 0), (.int .i64 0), (.bool false)]) := by kernel_rfl
theorem sz69 : szOf Try.prog 69 = some 3 := by kernel_rfl
theorem by69 : byOf Try.prog 69 = some 24 := by kernel_rfl
theorem ag69 : aggOf Try.prog 69 = some true := by kernel_rfl
theorem eg69 : Try.prog.eqGuardType Try.prog.depth 69 = false := by kernel_rfl
theorem si69 : Try.prog.stoodInHeld 69 = false := by kernel_rfl
theorem zr69 : zeroOf Try.prog 69 = some (.agg #[(.int .i64 0), (.int .i64 0), (.bool false)]) := by kernel_rfl
theorem sz70 : szOf Try.prog 70 = some 1 := by kernel_rfl
theorem by70 : byOf Try.prog 70 = some 24 := by kernel_rfl
theorem ag70 : aggOf Try.prog 70 = some false := by kernel_rfl
theorem zr70 : zeroOf Try.prog 70 = some (.slice none 0 0) := by kernel_rfl
theorem sz71 : szOf Try.prog 71 = some 1 := by kernel_rfl
theorem by71 : byOf Try.prog 71 = some 8 := by kernel_rfl
theorem ag71 : aggOf Try.prog 71 = some false := by kernel_rfl
theorem zr71 : zeroOf Try.prog 71 = some (.map none) := by kernel_rfl
theorem sz72 : szOf Try.prog 72 = some 5 := by kernel_rfl
theorem by72 : byOf Try.prog 72 = some 56 := by kernel_rfl
theorem ag72 : aggOf Try.prog 72 = some true := by kernel_rfl
theorem eg72 : Try.prog.eqGuardType Try.prog.depth 72 = false := by kernel_rfl
theorem si72 : Try.prog.stoodInHeld 72 = false := by kernel_rfl
theorem zr72 : zeroOf Try.prog 72 = some (.agg #[(.int .i64 0), (.int .i64 0), (.bool false), (.slice none 0 0), (.map none)]) := by kernel_rfl
theorem sz73 : szOf Try.prog 73 = some 5 := by kernel_rfl
theorem by73 : byOf Try.prog 73 = some 56 := by kernel_rfl
theorem ag73 : aggOf Try.prog 73 = some true := by kernel_rfl
theorem eg73 : Try.prog.eqGuardType Try.prog.depth 73 = false := by kernel_rfl
theorem si73 : Try.prog.stoodInHeld 73 = false := by kernel_rfl
theorem zr73 : zeroOf Try.prog 73 = some (.agg #[(.int .i64 0), (.int .i64 0), (.bool false), (.slice none 0 0), (.map none)]) := by kernel_rfl
theorem sz74 : szOf Try.prog 74 = some 1 := by kernel_rfl
theorem by74 : byOf Try.prog 74 = some 24 := by kernel_rfl
theorem ag74 : aggOf Try.prog 74 = some false := by kernel_rfl
theorem zr74 : zeroOf Try.prog 74 = some (.slice none 0 0) := by kernel_rfl
theorem sz75 : szOf Try.prog 75 = some 1 := by kernel_rfl
theorem by75 : byOf Try.prog 75 = some 8 := by kernel_rfl
theorem ag75 : aggOf Try.prog 75 = some false := by kernel_rfl
theorem zr75 : zeroOf Try.prog 75 = some .nilFunc := by kernel_rfl
theorem sz76 : szOf Try.prog 76 = some 4 := by kernel_rfl
theorem by76 : byOf Try.prog 76 = some 48 := by kernel_rfl
theorem ag76 : aggOf Try.prog 76 = some true := by kernel_rfl
theorem eg76 : Try.prog.eqGuardType Try.prog.depth 76 = false := by kernel_rfl
theorem si76 : Try.prog.stoodInHeld 76 = false := by kernel_rfl
theorem zr76 : zeroOf Try.prog 76 = some (.agg #[(.pointer none), (.slice none 0 0), (.int .i64 0), (.int .i64 0)]) := by kernel_rfl
theorem sz77 : szOf Try.prog 77 = some 4 := by kernel_rfl
theorem by77 : byOf Try.prog 77 = some 48 := by kernel_rfl
theorem ag77 : aggOf Try.prog 77 = some true := by kernel_rfl
theorem eg77 : Try.prog.eqGuardType Try.prog.depth 77 = false := by kernel_rfl
theorem si77 : Try.prog.stoodInHeld 77 = false := by kernel_rfl
theorem zr77 : zeroOf Try.prog 77 = some (.agg #[(.pointer none), (.slice none 0 0), (.int .i64 0), (.int .i64 0)]) := by kernel_rfl
theorem sz78 : szOf Try.prog 78 = some 128 := by kernel_rfl
theorem by78 : byOf Try.prog 78 = some 128 := by kernel_rfl
theorem ag78 : aggOf Try.prog 78 = some true := by kernel_rfl
theorem eg78 : Try.prog.eqGuardType Try.prog.depth 78 = false := by kernel_rfl
theorem zr78 : zeroOf Try.prog 78 = some (.agg #[(.int .u8 0), (.int .u8 0), (.int .u8 0), (.int .u8 0), (.int .u8 0), (.int .u8 0), (.int .u8 0), (.int .u8 0), (.int .u8 0), (.int .u8 0), (.int .u8 0), (.int .u8 0), (.int .u8 0), (.int .u8 0), (.int .u8 0), (.int .u8 0), (.int .u8 0), (.int .u8 0), (.int .u8 0), (.int .u8 0), (.int .u8 0), (.int .u8 0), (.int .u8 0), (.int .u8 0), (.int .u8 0), (.int .u8 0), (.int .u8 0), (.int .u8 0), (.int .u8 0), (.int .u8 0), (.int .u8 0), (.int .u8 0), (.int .u8 0), (.int .u8 0), (.int .u8 0), (.int .u8 0), (.int .u8 0), (.int .u8 0), (.int .u8 0), (.int .u8 0), (.int .u8 0), (.int .u8 0), (.int .u8 0), (.int .u8 0), (.int .u8 0), (.int .u8 0), (.int .u8 0), (.int .u8 0), (.int .u8 0), (.int .u8 0), (.int .u8 0), (.int .u8 0), (.int .u8 0), (.int .u8 0), (.int .u8 0), (.int .u8 0), (.int .u8 0), (.int .u8 0), (.int .u8 0), (.int .u8 0), (.int .u8 0), (.int .u8 0), (.int .u8 0), (.int .u8 0), (.int .u8 0), (.int .u8 0), (.int .u8 0), (.int .u8 0), (.int .u8 0), (.int .u8 0), (.int .u8 0), (.int .u8 0), (.int .u8 0), (.int .u8 0), (.int .u8 0), (.int .u8 0), (.int .u8 0), (.int .u8 0), (.int .u8 0), (.int .u8 0), (.int .u8 0), (.int .u8 0), (.int .u8 0), (.int .u8 0), (.int .u8 0), (.int .u8 0), (.int .u8 0), (.int .u8 0), (.int .u8 0), (.int .u8 0), (.int .u8 0), (.int .u8 0), (.int .u8 0), (.int .u8 0), (.int .u8 0), (.int .u8 0), (.int .u8 0), (.int .u8 0), (.int .u8 0), (.int .u8 0), (.int .u8 0), (.int .u8 0), (.int .u8 0), (.int .u8 0), (.int .u8 0), (.int .u8 0), (.int .u8 0), (.int .u8 0), (.int .u8 0), (.int .u8 0), (.int .u8 0), (.int .u8 0), (.int .u8 0), (.int .u8 0), (.int .u8 0), (.int .u8 0), (.int .u8 0), (.int .u8 0), (.int .u8 0), (.int .u8 0), (.int .u8 0), (.int .u8 0), (.int .u8 0), (.int .u8 0), (.int .u8 0), (.int .u8 0), (.int .u8 0), (.int .u8 0)]) := by kernel_rfl
theorem sz80 : szOf Try.prog 80 = some 1 := by kernel_rfl
theorem by80 : byOf Try.prog 80 = some 8 := by kernel_rfl
theorem ag80 : aggOf Try.prog 80 = some false := by kernel_rfl
theorem zr80 : zeroOf Try.prog 80 = some .nilFunc := by kernel_rfl
theorem sz81 : szOf Try.prog 81 = some 67 := by kernel_rfl
theorem by81 : byOf Try.prog 81 = some 88 := by kernel_rfl
theorem ag81 : aggOf Try.prog 81 = some true := by kernel_rfl
theorem eg81 : Try.prog.eqGuardType Try.prog.depth 81 = false := by kernel_rfl
theorem si81 : Try.prog.stoodInHeld 81 = false := by kernel_rfl
theorem zr81 : zeroOf Try.prog 81 = some (.agg #[(.int .i64 0), (.int .u8 0), (.int .u8 0), (.int .u8 0), (.int .u8 0), (.int .u8 0), (.int .u8 0), (.int .u8 0), (.int .u8 0), (.int .u8 0), (.int .u8 0), (.int .u8 0), (.int .u8 0), (.int .u8 0), (.int .u8 0), (.int .u8 0), (.int .u8 0), (.int .u8 0), (.int .u8 0), (.int .u8 0), (.int .u8 0), (.int .u8 0), (.int .u8 0), (.int .u8 0), (.int .u8 0), (.int .u8 0), (.int .u8 0), (.int .u8 0), (.int .u8 0), (.int .u8 0), (.int .u8 0), (.int .u8 0), (.int .u8 0), (.int .u8 0), (.int .u8 0), (.int .u8 0), (.int .u8 0), (.int .u8 0), (.int .u8 0), (.int .u8 0), (.int .u8 0), (.int .u8 0), (.int .u8 0), (.int .u8 0), (.int .u8 0), (.int .u8 0), (.int .u8 0), (.int .u8 0), (.int .u8 0), (.int .u8 0), (.int .u8 0), (.int .u8 0), (.int .u8 0), (.int .u8 0), (.int .u8 0), (.int .u8 0), (.int .u8 0), (.int .u8 0), (.int .u8 0), (.int .u8 0), (.int .u8 0), (.int .u8 0), (.int .u8 0), (.int .u8 0), (.int .u8 0), (.int .i64 0), (.int .i64 0)]) := by kernel_rfl
theorem sz82 : szOf Try.prog 82 = some 67 := by kernel_rfl
theorem by82 : byOf Try.prog 82 = some 88 := by kernel_rfl
theorem ag82 : aggOf Try.prog 82 = some true := by kernel_rfl
theorem eg82 : Try.prog.eqGuardType Try.prog.depth 82 = false := by kernel_rfl
theorem si82 : Try.prog.stoodInHeld 82 = false := by kernel_rfl
theorem zr82 : zeroOf Try.prog 82 = some (.agg #[(.int .i64 0), (.int .u8 0), (.int .u8 0), (.int .u8 0), (.int .u8 0), (.int .u8 0), (.int .u8 0), (.int .u8 0), (.int .u8 0), (.int .u8 0), (.int .u8 0), (.int .u8 0), (.int .u8 0), (.int .u8 0), (.int .u8 0), (.int .u8 0), (.int .u8 0), (.int .u8 0), (.int .u8 0), (.int .u8 0), (.int .u8 0), (.int .u8 0), (.int .u8 0), (.int .u8 0), (.int .u8 0), (.int .u8 0), (.int .u8 0), (.int .u8 0), (.int .u8 0), (.int .u8 0), (.int .u8 0), (.int .u8 0), (.int .u8 0), (.int .u8 0), (.int .u8 0), (.int .u8 0), (.int .u8 0), (.int .u8 0), (.int .u8 0), (.int .u8 0), (.int .u8 0), (.int .u8 0), (.int .u8 0), (.int .u8 0), (.int .u8 0), (.int .u8 0), (.int .u8 0), (.int .u8 0), (.int .u8 0), (.int .u8 0), (.int .u8 0), (.int .u8 0), (.int .u8 0), (.int .u8 0), (.int .u8 0), (.int .u8 0), (.int .u8 0), (.int .u8 0), (.int .u8 0), (.int .u8 0), (.int .u8 0), (.int .u8 0), (.int .u8 0), (.int .u8 0), (.int .u8 0), (.int .i64 0), (.int .i64 0)]) := by kernel_rfl
theorem sz84 : szOf Try.prog 84 = some 1 := by kernel_rfl
theorem by84 : byOf Try.prog 84 = some 8 := by kernel_rfl
theorem ag84 : aggOf Try.prog 84 = some false := by kernel_rfl
theorem zr84 : zeroOf Try.prog 84 = some .nilFunc := by kernel_rfl
theorem sz85 : szOf Try.prog 85 = some 1 := by kernel_rfl
theorem by85 : byOf Try.prog 85 = some 8 := by kernel_rfl
theorem ag85 : aggOf Try.prog 85 = some false := by kernel_rfl
theorem zr85 : zeroOf Try.prog 85 = some .nilFunc := by kernel_rfl
theorem sz86 : szOf Try.prog 86 = some 1 := by kernel_rfl
theorem by86 : byOf Try.prog 86 = some 8 := by kernel_rfl
theorem ag86 : aggOf Try.prog 86 = some false := by kernel_rfl
theorem zr86 : zeroOf Try.prog 86 = some .nilFunc := by kernel_rfl
theorem sz87 : szOf Try.prog 87 = some 1 := by kernel_rfl
theorem by87 : byOf Try.prog 87 = some 8 := by kernel_rfl
theorem ag87 : aggOf Try.prog 87 = some false := by kernel_rfl
theorem zr87 : zeroOf Try.prog 87 = some .nilFunc := by kernel_rfl
theorem sz88 : szOf Try.prog 88 = some 1 := by kernel_rfl
theorem by88 : byOf Try.prog 88 = some 8 := by kernel_rfl
theorem ag88 : aggOf Try.prog 88 = some false := by kernel_rfl
theorem zr88 : zeroOf Try.prog 88 = some .nilFunc := by kernel_rfl
theorem sz89 : szOf Try.prog 89 = some 1 := by kernel_rfl
theorem by89 : byOf Try.prog 89 = some 8 := by kernel_rfl
theorem ag89 : aggOf Try.prog 89 = some false := by kernel_rfl
theorem zr89 : zeroOf Try.prog 89 = some .nilFunc := by kernel_rfl
theorem sz90 : szOf Try.prog 90 = some 1 := by kernel_rfl
theorem by90 : byOf Try.prog 90 = some 8 := by kernel_rfl
theorem ag90 : aggOf Try.prog 90 = some false := by kernel_rfl
theorem zr90 : zeroOf Try.prog 90 = some .nilFunc := by kernel_rfl
theorem sz92 : szOf Try.prog 92 = some 1 := by kernel_rfl
theorem by92 : byOf Try.prog 92 = some 8 := by kernel_rfl
theorem ag92 : aggOf Try.prog 92 = some false := by kernel_rfl
theorem zr92 : zeroOf Try.prog 92 = some .nilFunc := by kernel_rfl
theorem sz93 : szOf Try.prog 93 = some 1 := by kernel_rfl
theorem by93 : byOf Try.prog 93 = some 8 := by kernel_rfl
theorem ag93 : aggOf Try.prog 93 = some false := by kernel_rfl
theorem zr93 : zeroOf Try.prog 93 = some .nilFunc := by kernel_rfl
theorem sz94 : szOf Try.prog 94 = some 1 := by kernel_rfl
theorem by94 : byOf Try.prog 94 = some 8 := by kernel_rfl
theorem ag94 : aggOf Try.prog 94 = some false := by kernel_rfl
theorem zr94 : zeroOf Try.prog 94 = some .nilFunc := by kernel_rfl
theorem sz95 : szOf Try.prog 95 = some 1 := by kernel_rfl
theorem by95 : byOf Try.prog 95 = some 8 := by kernel_rfl
theorem ag95 : aggOf Try.prog 95 = some false := by kernel_rfl
theorem zr95 : zeroOf Try.prog 95 = some .nilFunc := by kernel_rfl
theorem sz96 : szOf Try.prog 96 = some 1 := by kernel_rfl
theorem by96 : byOf Try.prog 96 = some 8 := by kernel_rfl
theorem ag96 : aggOf Try.prog 96 = some false := by kernel_rfl
theorem zr96 : zeroOf Try.prog 96 = some .nilFunc := by kernel_rfl
theorem sz97 : szOf Try.prog 97 = some 1 := by kernel_rfl
theorem by97 : byOf Try.prog 97 = some 8 := by kernel_rfl
theorem ag97 : aggOf Try.prog 97 = some false := by kernel_rfl
theorem zr97 : zeroOf Try.prog 97 = some .nilFunc := by kernel_rfl
theorem sz98 : szOf Try.prog 98 = some 1 := by kernel_rfl
theorem by98 : byOf Try.prog 98 = some 8 := by kernel_rfl
theorem ag98 : aggOf Try.prog 98 = some false := by kernel_rfl
theorem zr98 : zeroOf Try.prog 98 = some .nilFunc := by kernel_rfl
theorem sz100 : szOf Try.prog 100 = some 1 := by kernel_rfl
theorem by100 : byOf Try.prog 100 = some 8 := by kernel_rfl
theorem ag100 : aggOf Try.prog 100 = some false := by kernel_rfl
theorem zr100 : zeroOf Try.prog 100 = some .nilFunc := by kernel_rfl
theorem sz101 : szOf Try.prog 101 = some 1 := by kernel_rfl
theorem by101 : byOf Try.prog 101 = some 8 := by kernel_rfl
theorem ag101 : aggOf Try.prog 101 = some false := by kernel_rfl
theorem zr101 : zeroOf Try.prog 101 = some .nilFunc := by kernel_rfl
theorem sz102 : szOf Try.prog 102 = some 1 := by kernel_rfl
theorem by102 : byOf Try.prog 102 = some 8 := by kernel_rfl
theorem ag102 : aggOf Try.prog 102 = some false := by kernel_rfl
theorem zr102 : zeroOf Try.prog 102 = some .nilFunc := by kernel_rfl
theorem sz103 : szOf Try.prog 103 = some 1 := by kernel_rfl
theorem by103 : byOf Try.prog 103 = some 8 := by kernel_rfl
theorem ag103 : aggOf Try.prog 103 = some false := by kernel_rfl
theorem zr103 : zeroOf Try.prog 103 = some (.pointer none) := by kernel_rfl
theorem sz104 : szOf Try.prog 104 = some 1 := by kernel_rfl
theorem by104 : byOf Try.prog 104 = some 8 := by kernel_rfl
theorem ag104 : aggOf Try.prog 104 = some false := by kernel_rfl
theorem zr104 : zeroOf Try.prog 104 = some .nilFunc := by kernel_rfl
theorem sz105 : szOf Try.prog 105 = some 1 := by kernel_rfl
theorem by105 : byOf Try.prog 105 = some 8 := by kernel_rfl
theorem ag105 : aggOf Try.prog 105 = some false := by kernel_rfl
theorem zr105 : zeroOf Try.prog 105 = some .nilFunc := by kernel_rfl
theorem sz106 : szOf Try.prog 106 = some 1 := by kernel_rfl
theorem by106 : byOf Try.prog 106 = some 24 := by kernel_rfl
theorem ag106 : aggOf Try.prog 106 = some false := by kernel_rfl
theorem zr106 : zeroOf Try.prog 106 = some (.slice none 0 0) := by kernel_rfl
theorem sz107 : szOf Try.prog 107 = some 1 := by kernel_rfl
theorem by107 : byOf Try.prog 107 = some 8 := by kernel_rfl
theorem ag107 : aggOf Try.prog 107 = some false := by kernel_rfl
theorem zr107 : zeroOf Try.prog 107 = some (.pointer none) := by kernel_rfl
theorem sz108 : szOf Try.prog 108 = some 1 := by kernel_rfl
theorem by108 : byOf Try.prog 108 = some 8 := by kernel_rfl
theorem ag108 : aggOf Try.prog 108 = some false := by kernel_rfl
theorem zr108 : zeroOf Try.prog 108 = some .nilFunc := by kernel_rfl
theorem sz109 : szOf Try.prog 109 = some 1 := by kernel_rfl
theorem by109 : byOf Try.prog 109 = some 8 := by kernel_rfl
theorem ag109 : aggOf Try.prog 109 = some false := by kernel_rfl
theorem zr109 : zeroOf Try.prog 109 = some .nilFunc := by kernel_rfl
theorem sz110 : szOf Try.prog 110 = some 1 := by kernel_rfl
theorem by110 : byOf Try.prog 110 = some 8 := by kernel_rfl
theorem ag110 : aggOf Try.prog 110 = some false := by kernel_rfl
theorem zr110 : zeroOf Try.prog 110 = some (.pointer none) := by kernel_rfl
theorem sz111 : szOf Try.prog 111 = some 1 := by kernel_rfl
theorem by111 : byOf Try.prog 111 = some 8 := by kernel_rfl
theorem ag111 : aggOf Try.prog 111 = some false := by kernel_rfl
theorem zr111 : zeroOf Try.prog 111 = some .nilFunc := by kernel_rfl
theorem sz112 : szOf Try.prog 112 = some 1 := by kernel_rfl
theorem by112 : byOf Try.prog 112 = some 8 := by kernel_rfl
theorem ag112 : aggOf Try.prog 112 = some false := by kernel_rfl
theorem zr112 : zeroOf Try.prog 112 = some .nilFunc := by kernel_rfl
theorem sz113 : szOf Try.prog 113 = some 1 := by kernel_rfl
theorem by113 : byOf Try.prog 113 = some 8 := by kernel_rfl
theorem ag113 : aggOf Try.prog 113 = some false := by kernel_rfl
theorem zr113 : zeroOf Try.prog 113 = some .nilFunc := by kernel_rfl
theorem sz114 : szOf Try.prog 114 = some 1 := by kernel_rfl
theorem by114 : byOf Try.prog 114 = some 8 := by kernel_rfl
theorem ag114 : aggOf Try.prog 114 = some false := by kernel_rfl
theorem zr114 : zeroOf Try.prog 114 = some .nilFunc := by kernel_rfl
theorem sz115 : szOf Try.prog 115 = some 1 := by kernel_rfl
theorem by115 : byOf Try.prog 115 = some 8 := by kernel_rfl
theorem ag115 : aggOf Try.prog 115 = some false := by kernel_rfl
theorem zr115 : zeroOf Try.prog 115 = some .nilFunc := by kernel_rfl
theorem sz116 : szOf Try.prog 116 = some 1 := by kernel_rfl
theorem by116 : byOf Try.prog 116 = some 8 := by kernel_rfl
theorem ag116 : aggOf Try.prog 116 = some false := by kernel_rfl
theorem zr116 : zeroOf Try.prog 116 = some .nilFunc := by kernel_rfl
theorem sz117 : szOf Try.prog 117 = some 1 := by kernel_rfl
theorem by117 : byOf Try.prog 117 = some 8 := by kernel_rfl
theorem ag117 : aggOf Try.prog 117 = some false := by kernel_rfl
theorem zr117 : zeroOf Try.prog 117 = some .nilFunc := by kernel_rfl
theorem sz118 : szOf Try.prog 118 = some 1 := by kernel_rfl
theorem by118 : byOf Try.prog 118 = some 8 := by kernel_rfl
theorem ag118 : aggOf Try.prog 118 = some false := by kernel_rfl
theorem zr118 : zeroOf Try.prog 118 = some .nilFunc := by kernel_rfl
theorem sz119 : szOf Try.prog 119 = some 1 := by kernel_rfl
theorem by119 : byOf Try.prog 119 = some 8 := by kernel_rfl
theorem ag119 : aggOf Try.prog 119 = some false := by kernel_rfl
theorem zr119 : zeroOf Try.prog 119 = some .nilFunc := by kernel_rfl
theorem sz120 : szOf Try.prog 120 = some 2 := by kernel_rfl
theorem by120 : byOf Try.prog 120 = some 32 := by kernel_rfl
theorem ag120 : aggOf Try.prog 120 = some true := by kernel_rfl
theorem eg120 : Try.prog.eqGuardType Try.prog.depth 120 = false := by kernel_rfl
theorem si120 : Try.prog.stoodInHeld 120 = false := by kernel_rfl
theorem zr120 : zeroOf Try.prog 120 = some (.agg #[(.slice none 0 0), (.int .i64 0)]) := by kernel_rfl
theorem sz121 : szOf Try.prog 121 = some 2 := by kernel_rfl
theorem by121 : byOf Try.prog 121 = some 32 := by kernel_rfl
theorem ag121 : aggOf Try.prog 121 = some true := by kernel_rfl
theorem eg121 : Try.prog.eqGuardType Try.prog.depth 121 = false := by kernel_rfl
theorem si121 : Try.prog.stoodInHeld 121 = false := by kernel_rfl
theorem zr121 : zeroOf Try.prog 121 = some (.agg #[(.slice none 0 0), (.int .i64 0)]) := by kernel_rfl
theorem sz122 : szOf Try.prog 122 = some 1 := by kernel_rfl
theorem by122 : byOf Try.prog 122 = some 8 := by kernel_rfl
theorem ag122 : aggOf Try.prog 122 = some false := by kernel_rfl
theorem zr122 : zeroOf Try.prog 122 = some (.int .u64 0) := by kernel_rfl
theorem sz123 : szOf Try.prog 123 = some 1 := by kernel_rfl
theorem by123 : byOf Try.prog 123 = some 8 := by kernel_rfl
theorem ag123 : aggOf Try.prog 123 = some false := by kernel_rfl
theorem zr123 : zeroOf Try.prog 123 = some .nilFunc := by kernel_rfl
theorem sz124 : szOf Try.prog 124 = some 1 := by kernel_rfl
theorem by124 : byOf Try.prog 124 = some 8 := by kernel_rfl
theorem ag124 : aggOf Try.prog 124 = some false := by kernel_rfl
theorem zr124 : zeroOf Try.prog 124 = some .nilFunc := by kernel_rfl
theorem sz125 : szOf Try.prog 125 = some 1 := by kernel_rfl
theorem by125 : byOf Try.prog 125 = some 4 := by kernel_rfl
theorem ag125 : aggOf Try.prog 125 = some false := by kernel_rfl
theorem zr125 : zeroOf Try.prog 125 = some (.int .u32 0) := by kernel_rfl
theorem sz126 : szOf Try.prog 126 = some 8 := by kernel_rfl
theorem by126 : byOf Try.prog 126 = some 32 := by kernel_rfl
theorem ag126 : aggOf Try.prog 126 = some true := by kernel_rfl
theorem eg126 : Try.prog.eqGuardType Try.prog.depth 126 = false := by kernel_rfl
theorem zr126 : zeroOf Try.prog 126 = some (.agg #[(.int .u32 0), (.int .u32 0), (.int .u32 0), (.int .u32 0), (.int .u32 0), (.int .u32 0), (.int .u32 0), (.int .u32 0)]) := by kernel_rfl
theorem sz127 : szOf Try.prog 127 = some 10 := by kernel_rfl
theorem by127 : byOf Try.prog 127 = some 64 := by kernel_rfl
theorem ag127 : aggOf Try.prog 127 = some true := by kernel_rfl
theorem eg127 : Try.prog.eqGuardType Try.prog.depth 127 = false := by kernel_rfl
theorem si127 : Try.prog.stoodInHeld 127 = false := by kernel_rfl
theorem zr127 : zeroOf Try.prog 127 = some (.agg #[(.int .u32 0), (.int .u32 0), (.int .u32 0), (.int .u32 0), (.int .u32 0), (.int .u32 0), (.int .u32 0), (.int .u32 0), (.slice none 0 0), (.int .u64 0)]) := by kernel_rfl
theorem sz128 : szOf Try.prog 128 = some 10 := by kernel_rfl
theorem by128 : byOf Try.prog 128 = some 64 := by kernel_rfl
theorem ag128 : aggOf Try.prog 128 = some true := by kernel_rfl
theorem eg128 : Try.prog.eqGuardType Try.prog.depth 128 = false := by kernel_rfl
theorem si128 : Try.prog.stoodInHeld 128 = false := by kernel_rfl
theorem zr128 : zeroOf Try.prog 128 = some (.agg #[(.int .u32 0), (.int .u32 0), (.int .u32 0), (.int .u32 0), (.int .u32 0), (.int .u32 0), (.int .u32 0), (.int .u32 0), (.slice none 0 0), (.int .u64 0)]) := by kernel_rfl
theorem sz129 : szOf Try.prog 129 = some 1 := by kernel_rfl
theorem by129 : byOf Try.prog 129 = some 8 := by kernel_rfl
theorem ag129 : aggOf Try.prog 129 = some false := by kernel_rfl
theorem zr129 : zeroOf Try.prog 129 = some .nilFunc := by kernel_rfl
theorem sz130 : szOf Try.prog 130 = some 1 := by kernel_rfl
theorem by130 : byOf Try.prog 130 = some 8 := by kernel_rfl
theorem ag130 : aggOf Try.prog 130 = some false := by kernel_rfl
theorem zr130 : zeroOf Try.prog 130 = some .nilFunc := by kernel_rfl
theorem sz131 : szOf Try.prog 131 = some 1 := by kernel_rfl
theorem by131 : byOf Try.prog 131 = some 8 := by kernel_rfl
theorem ag131 : aggOf Try.prog 131 = some false := by kernel_rfl
theorem zr131 : zeroOf Try.prog 131 = some (.pointer none) := by kernel_rfl
theorem sz132 : szOf Try.prog 132 = some 1 := by kernel_rfl
theorem by132 : byOf Try.prog 132 = some 24 := by kernel_rfl
theorem ag132 : aggOf Try.prog 132 = some true := by kernel_rfl
theorem eg132 : Try.prog.eqGuardType Try.prog.depth 132 = false := by kernel_rfl
theorem si132 : Try.prog.stoodInHeld 132 = false := by kernel_rfl
theorem zr132 : zeroOf Try.prog 132 = some (.agg #[(.slice none 0 0)]) := by kernel_rfl
theorem sz133 : szOf Try.prog 133 = some 1 := by kernel_rfl
theorem by133 : byOf Try.prog 133 = some 24 := by kernel_rfl
theorem ag133 : aggOf Try.prog 133 = some true := by kernel_rfl
theorem eg133 : Try.prog.eqGuardType Try.prog.depth 133 = false := by kernel_rfl
theorem si133 : Try.prog.stoodInHeld 133 = false := by kernel_rfl
theorem zr133 : zeroOf Try.prog 133 = some (.agg #[(.slice none 0 0)]) := by kernel_rfl
theorem sz134 : szOf Try.prog 134 = some 1 := by kernel_rfl
theorem by134 : byOf Try.prog 134 = some 8 := by kernel_rfl
theorem ag134 : aggOf Try.prog 134 = some false := by kernel_rfl
theorem zr134 : zeroOf Try.prog 134 = some .nilFunc := by kernel_rfl
theorem sz135 : szOf Try.prog 135 = some 1 := by kernel_rfl
theorem by135 : byOf Try.prog 135 = some 8 := by kernel_rfl
theorem ag135 : aggOf Try.prog 135 = some false := by kernel_rfl
theorem zr135 : zeroOf Try.prog 135 = some .nilFunc := by kernel_rfl
theorem sz136 : szOf Try.prog 136 = some 1 := by kernel_rfl
theorem by136 : byOf Try.prog 136 = some 8 := by kernel_rfl
theorem ag136 : aggOf Try.prog 136 = some false := by kernel_rfl
theorem zr136 : zeroOf Try.prog 136 = some .nilFunc := by kernel_rfl
theorem sz137 : szOf Try.prog 137 = some 1 := by kernel_rfl
theorem by137 : byOf Try.prog 137 = some 8 := by kernel_rfl
theorem ag137 : aggOf Try.prog 137 = some false := by kernel_rfl
theorem zr137 : zeroOf Try.prog 137 = some (.int .i64 0) := by kernel_rfl
theorem sz139 : szOf Try.prog 139 = some 1 := by kernel_rfl
theorem by139 : byOf Try.prog 139 = some 8 := by kernel_rfl
theorem ag139 : aggOf Try.prog 139 = some false := by kernel_rfl
theorem zr139 : zeroOf Try.prog 139 = some .nilFunc := by kernel_rfl
theorem sz140 : szOf Try.prog 140 = some 1 := by kernel_rfl
theorem by140 : byOf Try.prog 140 = some 8 := by kernel_rfl
theorem ag140 : aggOf Try.prog 140 = some false := by kernel_rfl
theorem zr140 : zeroOf Try.prog 140 = some .nilFunc := by kernel_rfl
theorem sz141 : szOf Try.prog 141 = some 1 := by kernel_rfl
theorem by141 : byOf Try.prog 141 = some 8 := by kernel_rfl
theorem ag141 : aggOf Try.prog 141 = some false := by kernel_rfl
theorem zr141 : zeroOf Try.prog 141 = some .nilFunc := by kernel_rfl
theorem sz142 : szOf Try.prog 142 = some 1 := by kernel_rfl
theorem by142 : byOf Try.prog 142 = some 8 := by kernel_rfl
theorem ag142 : aggOf Try.prog 142 = some false := by kernel_rfl
theorem zr142 : zeroOf Try.prog 142 = some .nilFunc := by kernel_rfl
theorem sz143 : szOf Try.prog 143 = some 1 := by kernel_rfl
theorem by143 : byOf Try.prog 143 = some 8 := by kernel_rfl
theorem ag143 : aggOf Try.prog 143 = some false := by kernel_rfl
theorem zr143 : zeroOf Try.prog 143 = some .nilFunc := by kernel_rfl
theorem sz144 : szOf Try.prog 144 = some 1 := by kernel_rfl
theorem by144 : byOf Try.prog 144 = some 8 := by kernel_rfl
theorem ag144 : aggOf Try.prog 144 = some false := by kernel_rfl
theorem zr144 : zeroOf Try.prog 144 = some .nilFunc := by kernel_rfl
theorem sz145 : szOf Try.prog 145 = some 1 := by kernel_rfl
theorem by145 : byOf Try.prog 145 = some 8 := by kernel_rfl
theorem ag145 : aggOf Try.prog 145 = some false := by kernel_rfl
theorem zr145 : zeroOf Try.prog 145 = some .nilFunc := by kernel_rfl
theorem sz146 : szOf Try.prog 146 = some 64 := by kernel_rfl
theorem by146 : byOf Try.prog 146 = some 256 := by kernel_rfl
theorem ag146 : aggOf Try.prog 146 = some true := by kernel_rfl
theorem eg146 : Try.prog.eqGuardType Try.prog.depth 146 = false := by kernel_rfl
theorem zr146 : zeroOf Try.prog 146 = some (.agg #[(.int .u32 0), (.int .u32 0), (.int .u32 0), (.int .u32 0), (.int .u32 0), (.int .u32 0), (.int .u32 0), (.int .u32 0), (.int .u32 0), (.int .u32 0), (.int .u32 0), (.int .u32 0), (.int .u32 0), (.int .u32 0), (.int .u32 0), (.int .u32 0), (.int .u32 0), (.int .u32 0), (.int .u32 0), (.int .u32 0), (.int .u32 0), (.int .u32 0), (.int .u32 0), (.int .u32 0), (.int .u32 0), (.int .u32 0), (.int .u32 0), (.int .u32 0), (.int .u32 0), (.int .u32 0), (.int .u32 0), (.int .u32 0), (.int .u32 0), (.int .u32 0), (.int .u32 0), (.int .u32 0), (.int .u32 0), (.int .u32 0), (.int .u32 0), (.int .u32 0), (.int .u32 0), (.int .u32 0), (.int .u32 0), (.int .u32 0), (.int .u32 0), (.int .u32 0), (.int .u32 0), (.int .u32 0), (.int .u32 0), (.int .u32 0), (.int .u32 0), (.int .u32 0), (.int .u32 0), (.int .u32 0), (.int .u32 0), (.int .u32 0), (.int .u32 0), (.int .u32 0), (.int .u32 0), (.int .u32 0), (.int .u32 0), (.int .u32 0), (.int .u32 0), (.int .u32 0)]) := by kernel_rfl
theorem sz147 : szOf Try.prog 147 = some 1 := by kernel_rfl
theorem by147 : byOf Try.prog 147 = some 8 := by kernel_rfl
theorem ag147 : aggOf Try.prog 147 = some false := by kernel_rfl
theorem zr147 : zeroOf Try.prog 147 = some .nilFunc := by kernel_rfl
theorem sz148 : szOf Try.prog 148 = some 1 := by kernel_rfl
theorem by148 : byOf Try.prog 148 = some 8 := by kernel_rfl
theorem ag148 : aggOf Try.prog 148 = some false := by kernel_rfl
theorem zr148 : zeroOf Try.prog 148 = some .nilFunc := by kernel_rfl
theorem sz149 : szOf Try.prog 149 = some 1 := by kernel_rfl
theorem by149 : byOf Try.prog 149 = some 8 := by kernel_rfl
theorem ag149 : aggOf Try.prog 149 = some false := by kernel_rfl
theorem zr149 : zeroOf Try.prog 149 = some .nilFunc := by kernel_rfl
theorem sz150 : szOf Try.prog 150 = some 1 := by kernel_rfl
theorem by150 : byOf Try.prog 150 = some 8 := by kernel_rfl
theorem ag150 : aggOf Try.prog 150 = some false := by kernel_rfl
theorem zr150 : zeroOf Try.prog 150 = some .nilFunc := by kernel_rfl
theorem sz151 : szOf Try.prog 151 = some 1 := by kernel_rfl
theorem by151 : byOf Try.prog 151 = some 8 := by kernel_rfl
theorem ag151 : aggOf Try.prog 151 = some false := by kernel_rfl
theorem zr151 : zeroOf Try.prog 151 = some .nilFunc := by kernel_rfl
theorem sz152 : szOf Try.prog 152 = some 1 := by kernel_rfl
theorem by152 : byOf Try.prog 152 = some 8 := by kernel_rfl
theorem ag152 : aggOf Try.prog 152 = some false := by kernel_rfl
theorem zr152 : zeroOf Try.prog 152 = some (.int .u64 0) := by kernel_rfl
theorem sz153 : szOf Try.prog 153 = some 1 := by kernel_rfl
theorem by153 : byOf Try.prog 153 = some 8 := by kernel_rfl
theorem ag153 : aggOf Try.prog 153 = some false := by kernel_rfl
theorem zr153 : zeroOf Try.prog 153 = some .nilFunc := by kernel_rfl
theorem sz154 : szOf Try.prog 154 = some 1 := by kernel_rfl
theorem by154 : byOf Try.prog 154 = some 8 := by kernel_rfl
theorem ag154 : aggOf Try.prog 154 = some false := by kernel_rfl
theorem zr154 : zeroOf Try.prog 154 = some .nilFunc := by kernel_rfl
theorem sz155 : szOf Try.prog 155 = some 1 := by kernel_rfl
theorem by155 : byOf Try.prog 155 = some 8 := by kernel_rfl
theorem ag155 : aggOf Try.prog 155 = some false := by kernel_rfl
theorem zr155 : zeroOf Try.prog 155 = some .nilFunc := by kernel_rfl
theorem sz156 : szOf Try.prog 156 = some 1 := by kernel_rfl
theorem by156 : byOf Try.prog 156 = some 8 := by kernel_rfl
theorem ag156 : aggOf Try.prog 156 = some false := by kernel_rfl
theorem zr156 : zeroOf Try.prog 156 = some (.pointer none) := by kernel_rfl
theorem sz157 : szOf Try.prog 157 = some 1 := by kernel_rfl
theorem by157 : byOf Try.prog 157 = some 8 := by kernel_rfl
theorem ag157 : aggOf Try.prog 157 = some false := by kernel_rfl
theorem zr157 : zeroOf Try.prog 157 = some .nilFunc := by kernel_rfl
theorem sz158 : szOf Try.prog 158 = some 1 := by kernel_rfl
theorem by158 : byOf Try.prog 158 = some 8 := by kernel_rfl
theorem ag158 : aggOf Try.prog 158 = some false := by kernel_rfl
theorem zr158 : zeroOf Try.prog 158 = some (.pointer none) := by kernel_rfl
theorem sz159 : szOf Try.prog 159 = some 1 := by kernel_rfl
theorem by159 : byOf Try.prog 159 = some 8 := by kernel_rfl
theorem ag159 : aggOf Try.prog 159 = some false := by kernel_rfl
theorem zr159 : zeroOf Try.prog 159 = some .nilFunc := by kernel_rfl
theorem sz160 : szOf Try.prog 160 = some 1 := by kernel_rfl
theorem by160 : byOf Try.prog 160 = some 8 := by kernel_rfl
theorem ag160 : aggOf Try.prog 160 = some false := by kernel_rfl
theorem zr160 : zeroOf Try.prog 160 = some .nilFunc := by kernel_rfl
theorem sz163 : szOf Try.prog 163 = some 0 := by kernel_rfl
theorem by163 : byOf Try.prog 163 = some 0 := by kernel_rfl
theorem ag163 : aggOf Try.prog 163 = some true := by kernel_rfl
theorem eg163 : Try.prog.eqGuardType Try.prog.depth 163 = false := by kernel_rfl
theorem zr163 : zeroOf Try.prog 163 = some (.agg #[]) := by kernel_rfl
theorem sz168 : szOf Try.prog 168 = some 1 := by kernel_rfl
theorem by168 : byOf Try.prog 168 = some 8 := by kernel_rfl
theorem ag168 : aggOf Try.prog 168 = some false := by kernel_rfl
theorem zr168 : zeroOf Try.prog 168 = some .nilFunc := by kernel_rfl
theorem sz169 : szOf Try.prog 169 = some 1 := by kernel_rfl
theorem by169 : byOf Try.prog 169 = some 8 := by kernel_rfl
theorem ag169 : aggOf Try.prog 169 = some false := by kernel_rfl
theorem zr169 : zeroOf Try.prog 169 = some (.pointer none) := by kernel_rfl
theorem sz174 : szOf Try.prog 174 = some 1 := by kernel_rfl
theorem by174 : byOf Try.prog 174 = some 8 := by kernel_rfl
theorem ag174 : aggOf Try.prog 174 = some false := by kernel_rfl
theorem zr174 : zeroOf Try.prog 174 = some .nilFunc := by kernel_rfl
theorem sz175 : szOf Try.prog 175 = some 1 := by kernel_rfl
theorem by175 : byOf Try.prog 175 = some 8 := by kernel_rfl
theorem ag175 : aggOf Try.prog 175 = some false := by kernel_rfl
theorem zr175 : zeroOf Try.prog 175 = some (.pointer none) := by kernel_rfl
theorem co5 : Try.prog.cellsOf 5 = 1 := by kernel_rfl
attribute [push_cast] sz1 by1 ag1 zr1 sz2 by2 ag2 zr2 sz3 by3 ag3 zr3 sz4 by4 ag4 zr4 sz5 by5 ag5 zr5 sz9 by9 ag9 zr9 sz12 by12 ag12 zr12 sz15 by15 ag15 zr15 sz16 by16 ag16 zr16 sz17 by17 ag17 zr17 sz20 by20 ag20 zr20 sz21 by21 ag21 zr21 sz22 by22 ag22 zr22 sz23 by23 ag23 zr23 sz24 by24 ag24 zr24 sz25 by25 ag25 zr25 sz27 by27 ag27 zr27 sz28 by28 ag28 zr28 sz30 by30 ag30 zr30 sz31 by31 ag31 zr31 sz32 by32 ag32 zr32 sz33 by33 ag33 zr33 sz34 by34 ag34 zr34 sz35 by35 ag35 zr35 sz36 by36 ag36 zr36 sz37 by37 ag37 eg37 zr37 sz38 by38 ag38 eg38 zr38 sz39 by39 ag39 zr39 sz40 by40 ag40 zr40 sz42 by42 ag42 zr42 sz44 by44 ag44 zr44 sz45 by45 ag45 zr45 sz46 by46 ag46 zr46 sz47 by47 ag47 zr47 sz48 by48 ag48 zr48 sz49 by49 ag49 zr49 sz50 by50 ag50 eg50 zr50 sz51 by51 ag51 eg51 si51 zr51 sz52 by52 ag52 eg52 si52 zr52 sz53 by53 ag53 zr53 sz54 by54 ag54 zr54 sz56 by56 ag56 zr56 sz57 by57 ag57 zr57 sz58 by58 ag58 zr58 sz60 by60 ag60 zr60 sz61 by61 ag61 zr61 sz62 by62 ag62 zr62 sz63 by63 ag63 zr63 sz64 by64 ag64 zr64 sz65 by65 ag65 zr65 sz66 by66 ag66 zr66 sz67 by67 ag67 zr67 sz68 by68 ag68 eg68 si68 zr68 sz69 by69 ag69 eg69 si69 zr69 sz70 by70 ag70 zr70 sz71 by71 ag71 zr71 sz72 by72 ag72 eg72 si72 zr72 sz73 by73 ag73 eg73 si73 zr73 sz74 by74 ag74 zr74 sz75 by75 ag75 zr75 sz76 by76 ag76 eg76 si76 zr76 sz77 by77 ag77 eg77 si77 zr77 sz78 by78 ag78 eg78 zr78 sz80 by80 ag80 zr80 sz81 by81 ag81 eg81 si81 zr81 sz82 by82 ag82 eg82 si82 zr82 sz84 by84 ag84 zr84 sz85 by85 ag85 zr85 sz86 by86 ag86 zr86 sz87 by87 ag87 zr87 sz88 by88 ag88 zr88 sz89 by89 ag89 zr89 sz90 by90 ag90 zr90 sz92 by92 ag92 zr92 sz93 by93 ag93 zr93 sz94 by94 ag94 zr94 sz95 by95 ag95 zr95 sz96 by96 ag96 zr96 sz97 by97 ag97 zr97 sz98 by98 ag98 zr98 sz100 by100 ag100 zr100 sz101 by101 ag101 zr101 sz102 by102 ag102 zr102 sz103 by103 ag103 zr103 sz104 by104 ag104 zr104 sz105 by105 ag105 zr105 sz106 by106 ag106 zr106 sz107 by107 ag107 zr107 sz108 by108 ag108 zr108 sz109 by109 ag109 zr109 sz110 by110 ag110 zr110 sz111 by111 ag111 zr111 sz112 by112 ag112 zr112 sz113 by113 ag113 zr113 sz114 by114 ag114 zr114 sz115 by115 ag115 zr115 sz116 by116 ag116 zr116 sz117 by117 ag117 zr117 sz118 by118 ag118 zr118 sz119 by119 ag119 zr119 sz120 by120 ag120 eg120 si120 zr120 sz121 by121 ag121 eg121 si121 zr121 sz122 by122 ag122 zr122 sz123 by123 ag123 zr123 sz124 by124 ag124 zr124 sz125 by125 ag125 zr125 sz126 by126 ag126 eg126 zr126 sz127 by127 ag127 eg127 si127 zr127 sz128 by128 ag128 eg128 si128 zr128 sz129 by129 ag129 zr129 sz130 by130 ag130 zr130 sz131 by131 ag131 zr131 sz132 by132 ag132 eg132 si132 zr132 sz133 by133 ag133 eg133 si133 zr133 sz134 by134 ag134 zr134 sz135 by135 ag135 zr135 sz136 by136 ag136 zr136 sz137 by137 ag137 zr137 sz139 by139 ag139 zr139 sz140 by140 ag140 zr140 sz141 by141 ag141 zr141 sz142 by142 ag142 zr142 sz143 by143 ag143 zr143 sz144 by144 ag144 zr144 sz145 by145 ag145 zr145 sz146 by146 ag146 eg146 zr146 sz147 by147 ag147 zr147 sz148 by148 ag148 zr148 sz149 by149 ag149 zr149 sz150 by150 ag150 zr150 sz151 by151 ag151 zr151 sz152 by152 ag152 zr152 sz153 by153 ag153 zr153 sz154 by154 ag154 zr154 sz155 by155 ag155 zr155 sz156 by156 ag156 zr156 sz157 by157 ag157 zr157 sz158 by158 ag158 zr158 sz159 by159 ag159 zr159 sz160 by160 ag160 zr160 sz163 by163 ag163 eg163 zr163 sz168 by168 ag168 zr168 sz169 by169 ag169 zr169 sz174 by174 ag174 zr174 sz175 by175 ag175 zr175 co5 Try.underlying0 Try.underlying1 Try.underlying2 Try.underlying3 Try.underlying4 Try.underlying5 Try.underlying6 Try.underlying7 Try.underlying8 Try.underlying9 Try.underlying10 Try.underlying11 Try.underlying12 Try.underlying13 Try.underlying14 Try.underlying15 Try.underlying16 Try.underlying17 Try.underlying18 Try.underlying19 Try.underlying20 Try.underlying21 Try.underlying22 Try.underlying23 Try.underlying24 Try.underlying25 Try.underlying26 Try.underlying27 Try.underlying28 Try.underlying29 Try.underlying30 Try.underlying31 Try.underlying32 Try.underlying33 Try.underlying34 Try.underlying35 Try.underlying36 Try.underlying37 Try.underlying38 Try.underlying39 Try.underlying40 Try.underlying41 Try.underlying42 Try.underlying43 Try.underlying44 Try.underlying45 Try.underlying46 Try.underlying47 Try.underlying48 Try.underlying49 Try.underlying50 Try.underlying51 Try.underlying52 Try.underlying53 Try.underlying54 Try.underlying55 Try.underlying56 Try.underlying57 Try.underlying58 Try.underlying59 Try.underlying60 Try.underlying61 Try.underlying62 Try.underlying63 Try.underlying64 Try.underlying65 Try.underlying66 Try.underlying67 Try.underlying68 Try.underlying69 Try.underlying70 Try.underlying71 Try.underlying72 Try.underlying73 Try.underlying74 Try.underlying75 Try.underlying76 Try.underlying77 Try.underlying78 Try.underlying79 Try.underlying80 Try.underlying81 Try.underlying82 Try.underlying83 Try.underlying84 Try.underlying85 Try.underlying86 Try.underlying87 Try.underlying88 Try.underlying89 Try.underlying90 Try.underlying91 Try.underlying92 Try.underlying93 Try.underlying94 Try.underlying95 Try.underlying96 Try.underlying97 Try.underlying98 Try.underlying99 Try.underlying100 Try.underlying101 Try.underlying102 Try.underlying103 Try.underlying104 Try.underlying105 Try.underlying106 Try.underlying107 Try.underlying108 Try.underlying109 Try.underlying110 Try.underlying111 Try.underlying112 Try.underlying113 Try.underlying114 Try.underlying115 Try.underlying116 Try.underlying117 Try.underlying118 Try.underlying119 Try.underlying120 Try.underlying121 Try.underlying122 Try.underlying123 Try.underlying124 Try.underlying125 Try.underlying126 Try.underlying127 Try.underlying128 Try.underlying129 Try.underlying130 Try.underlying131 Try.underlying132 Try.underlying133 Try.underlying134 Try.underlying135 Try.underlying136 Try.underlying137 Try.underlying138 Try.underlying139 Try.underlying140 Try.underlying141 Try.underlying142 Try.underlying143 Try.underlying144 Try.underlying145 Try.underlying146 Try.underlying147 Try.underlying148 Try.underlying149 Try.underlying150 Try.underlying151 Try.underlying152 Try.underlying153 Try.underlying154 Try.underlying155 Try.underlying156 Try.underlying157 Try.underlying158 Try.underlying159 Try.underlying160 Try.underlying161 Try.underlying162 Try.underlying163 Try.underlying164 Try.underlying165 Try.underlying166 Try.underlying167 Try.underlying168 Try.underlying169 Try.underlying170 Try.underlying171 Try.underlying172 Try.underlying173 Try.underlying174 Try.underlying175
end Go.Proofs.Ytdkfbbjpblfclaa

/-
  ENGINE, PART O: a machine that runs code over abstract states, and that what it says holds; for calls whose arguments are known through and through.
-/
set_option linter.unusedVariables false
set_option linter.unusedSimpArgs false
namespace Go.Eng
open Go

deriving instance DecidableEq for CV
deriving instance DecidableEq for BK
deriving instance DecidableEq for Blk

def preB : AMem → AMem → Bool
  | [], _ => true
  | a :: xa, b :: bs => decide (a = b) && preB xa bs
  | _ :: _, [] => false
theorem preB_ok : ∀ {m m' : AMem}, preB m m' = true → ∃ x, m' = m ++ x
  | [], m', _ => ⟨m', rfl⟩
  | a :: xa, b :: bs, h => by
    simp only [preB, Bool.and_eq_true, decide_eq_true_eq] at h
    obtain ⟨rfl, h⟩ := h
    obtain ⟨x, rfl⟩ := preB_ok h
    exact ⟨x, rfl⟩
  | _ :: _, [], h => by cases h

abbrev Caller := FuncId → List AV → AMem → Option (AV × AMem)

section
variable (P : Program) (call : Caller)
def rOps (ops : Array Oper) : List Oper → Tm → AMem → Option (Tm × AMem)
  | [], tm, mem => some (tm, mem)
  | o :: rest, tm, mem =>
    match wantedA ops o tm with
    | some true =>
      match o.op with
      | .store t x y => match storeA P t (opd tm x) (opd tm y) mem with
        | some mem' => rOps ops rest (putO o.dst (.one .und) tm) mem'
        | none => none
      | .call ⟨.value f, args, _⟩ => match opd tm f with
        | .one (.fn g cs) => match call g (args.toList.map (opd tm) ++ capsAV cs) mem with
          | some (ret, mem') => rOps ops rest (putO o.dst ret tm) mem'
          | none => none
        | _ => none
      | op => match evVal P (opd tm) mem op with
        | some (x, mem') => rOps ops rest (putO o.dst x tm) mem'
        | none => none
    | some false => rOps ops rest (putO o.dst (.one .und) tm) mem
    | none => none

def sameAt (r : Nat) (b : Blk) : List AMem → Bool
  | [] => true
  | M :: Ms => decide (M[r]? = some b) && sameAt r b Ms
def watchB (Ms : List AMem) : List (Nat × Nat) → Bool
  | [] => true
  | (lo, r) :: W => (match Ms.drop lo with
    | [] => true
    | M :: Ms' => match M[r]? with
      | some b => sameAt r b Ms'
      | none => false) && watchB Ms W
def upB (A : Option AMem) (cur mem' : AMem) : Bool :=
  match A with
  | some B => preB B cur && preB B mem'
  | none => false

def rOpsD (ops : Array Oper) : Pl → Tm → AMem → List AMem → List (Nat × Nat) → Option (Tm × AMem)
  | [], tm, cur, hist, ws => if watchB hist ws = true then some (tm, cur) else none
  | (o, p) :: rest, tm, cur, hist, ws =>
    match wantedA ops o tm with
    | some true =>
      match p with
      | .val => match evVal P (opd tm) [] o.op with
        | some (x, []) => rOpsD ops rest (putO o.dst x tm) cur hist ws
        | _ => none
      | .rd lo => match o.op with
        | .load t y => match hist[lo]? with
          | some M => match loadA P t (opd tm y) M with
            | some x => rOpsD ops rest (putO o.dst x tm) cur hist ws
            | none => none
          | none => none
        | _ => none
      | .rw lo => match o.op with
        | .load t y => match opd tm y, hist[lo]? with
          | .one (.ptr r ver off), some M => match loadA P t (.one (.ptr r ver off)) M with
            | some x => rOpsD ops rest (putO o.dst x tm) cur hist ((lo, r) :: ws)
            | none => none
          | _, _ => none
        | _ => none
      | .ext => match o.op with
        | .store _ _ _ => none
        | .call ⟨.value f, args, _⟩ => match opd tm f with
          | .one (.fn g cs) => match call g (args.toList.map (opd tm) ++ capsAV cs) cur with
            | some (ret, mem') => if preB cur mem' = true then rOpsD ops rest (putO o.dst ret tm) mem' (hist ++ [mem']) ws else none
            | none => none
          | _ => none
        | op => match evVal P (opd tm) cur op with
          | some (x, mem') => if preB cur mem' = true then rOpsD ops rest (putO o.dst x tm) mem' (hist ++ [mem']) ws else none
          | none => none
      | .up q => match evVal P (opd tm) cur o.op with
        | some (x, mem') => if upB hist[q]? cur mem' = true then rOpsD ops rest (putO o.dst x tm) mem' (hist ++ [mem']) ws else none
        | none => none
      | .fl => match o.op, o.guard with
        | .alloc t, none => match zeroOf P t with
          | some z => rOpsD ops rest (putO o.dst (.one (.ptr cur.length 0 0)) tm) (cur ++ [⟨.fix, t, 0, 0, z.cells.toList.map cellOf⟩]) (hist ++ [cur ++ [⟨.fix, t, 0, 0, z.cells.toList.map cellOf⟩]]) ws
          | none => none
        | _, _ => none
      | .wr => match o.op with
        | .store t x y => match storeA P t (opd tm x) (opd tm y) cur with
          | some mem' => rOpsD ops rest (putO o.dst (.one .und) tm) mem' (hist ++ [mem']) ws
          | none => none
        | .call ⟨.value f, args, _⟩ => match opd tm f with
          | .one (.fn g cs) => match call g (args.toList.map (opd tm) ++ capsAV cs) cur with
            | some (ret, mem') => rOpsD ops rest (putO o.dst ret tm) mem' (hist ++ [mem']) ws
            | none => none
          | _ => none
        | op => match evVal P (opd tm) cur op with
          | some (x, mem') => rOpsD ops rest (putO o.dst x tm) mem' (hist ++ [mem']) ws
          | none => none
    | some false => rOpsD ops rest (putO o.dst (.one .und) tm) cur (if p.chain then hist ++ [cur] else hist) ws
    | none => none

def rLoop (c : Tm → AMem → Option (Exit × Tm × AMem)) : Nat → Tm → AMem → Option (Exit × Tm × AMem)
  | 0, _, _ => none
  | n + 1, tm, mem => match c tm mem with
    | some (.normal, tm', mem') => rLoop c n tm' mem'
    | r => r

variable (pls : Nat → List Plan) (nt L : Nat)
def rCode : Code → Tm → AMem → Option (Exit × Tm × AMem)
  | .skip, tm, mem => some (.normal, tm, mem)
  | .ret, tm, mem => some (.ret, tm, mem)
  | .exit id, tm, mem => some (.exit id, tm, mem)
  | .seq x y, tm, mem => match rCode x tm mem with
    | some (.normal, tm', mem') => rCode y tm' mem'
    | r => r
  | .block id c, tm, mem => match rCode c tm mem with
    | some (.exit id', tm', mem') => if id' = id then some (.normal, tm', mem') else some (.exit id', tm', mem')
    | r => r
  | .cond c x y, tm, mem => match opd tm c with
    | .one (.bool true) => rCode x tm mem
    | .one (.bool false) => rCode y tm mem
    | _ => none
  | .loop c, tm, mem => rLoop (rCode c) L tm mem
  | .region id ops false, tm, mem => if ops.toList.all (dstOk nt) = true then (rOps P call ops ops.toList tm mem).map fun x => (.normal, x.1, x.2) else none
  | .region id ops true, tm, mem => if (pls id).length = ops.toList.length ∧ planOk nt (ops.toList.zip (pls id)) = true then
      (rOpsD P call ops (ops.toList.zip (pls id)) tm mem [mem] []).map fun x => (.normal, x.1, x.2) else none
  | _, _, _ => none
end

def rFunc (P : Program) (pls : Nat → Nat → List Plan) (L : Nat) : Nat → Caller
  | 0, _, _, _ => none
  | n + 1, g, args, mem => match P.funcs[g]? with
    | some fn => match fn.body with
      | some c => if (fn.name == "runtime.NumGoroutine") = false then
          match rCode P (rFunc P pls L n) (pls g) fn.ntmps L c (enterTm 0 args) mem with
          | some (.normal, tm, m) => (resA P fn.results.toList tm m).map fun x => (x, m)
          | some (.ret, tm, m) => (resA P fn.results.toList tm m).map fun x => (x, m)
          | _ => none
        else none
      | none => none
    | none => none

def CallOk (P : Program) (call : Caller) : Prop := ∀ g args mem ret mem', call g args mem = some (ret, mem') → Ctr P g args mem ret mem'

section
variable {P : Program} {call : Caller}
theorem rOps_ok (hc : CallOk P call) {ops : Array Oper} : ∀ (l : List Oper) (tm : Tm) (mem : AMem) (tm' : Tm) (mem' : AMem) (K : Tm → AMem → Prop), rOps P call ops l tm mem = some (tm', mem') → K tm' mem' → AOps P ops l tm mem K
  | [], tm, mem, tm', mem', K, h, hk => by
    simp only [rOps, Option.some.injEq, Prod.mk.injEq] at h
    obtain ⟨rfl, rfl⟩ := h; exact hk
  | o :: rest, tm, mem, tm', mem', K, h, hk => by
    rw [rOps] at h
    rw [AOps]
    split at h
    · rename_i hw
      rw [hw]
      simp only
      split at h
      · rename_i t x y hop
        split at h
        · rename_i m1 hs
          rw [hop]; simp only [hs]
          exact rOps_ok hc rest _ _ _ _ K h hk
        · cases h
      · rename_i f args ts hop
        split at h
        · rename_i g cs hf
          split at h
          · rename_i ret m1 hcall
            rw [hop]; simp only [hf]
            exact ⟨ret, m1, hc _ _ _ _ _ hcall, rOps_ok hc rest _ _ _ _ K h hk⟩
          · cases h
        · cases h
      · rename_i h1 h2
        split at h
        · rename_i x m1 hv
          split
          · rename_i t x y hop; exact absurd hop (h1 t x y)
          · rename_i f args ts hop; exact absurd hop (h2 f args ts)
          · simp only [hv]
            exact rOps_ok hc rest _ _ _ _ K h hk
        · cases h
    · rename_i hw
      rw [hw]
      exact rOps_ok hc rest _ _ _ _ K h hk
    · cases h

theorem sameAt_ok {r : Nat} {b : Blk} : ∀ {Ms : List AMem}, sameAt r b Ms = true → allAt r b Ms
  | [], _ => trivial
  | M :: Ms, h => by
    simp only [sameAt, Bool.and_eq_true, decide_eq_true_eq] at h
    exact ⟨h.1, sameAt_ok h.2⟩
theorem watchB_ok {Ms : List AMem} : ∀ {W : List (Nat × Nat)}, watchB Ms W = true → watchS Ms W
  | [], _ => trivial
  | (lo, r) :: W, h => by
    simp only [watchB, Bool.and_eq_true] at h
    refine ⟨?_, watchB_ok h.2⟩
    have h1 := h.1
    split
    · trivial
    · rename_i M Ms' hd
      rw [hd] at h1
      simp only at h1
      split
      · rename_i b hm; rw [hm] at h1; exact sameAt_ok h1
      · rename_i hm; rw [hm] at h1; cases h1
theorem upB_ok {A : Option AMem} {cur mem' : AMem} (h : upB A cur mem' = true) : ∃ B x0 y0, A = some B ∧ cur = B ++ x0 ∧ mem' = B ++ y0 := by
  unfold upB at h
  split at h
  · rename_i B
    simp only [Bool.and_eq_true] at h
    obtain ⟨x0, hx⟩ := preB_ok h.1
    obtain ⟨y0, hy⟩ := preB_ok h.2
    exact ⟨B, x0, y0, rfl, hx, hy⟩
  · cases h

theorem rOpsD_ok (hc : CallOk P call) {ops : Array Oper} : ∀ (l : Pl) (tm : Tm) (cur : AMem) (hist : List AMem) (ws : List (Nat × Nat)) (tm' : Tm) (mem' : AMem) (K : Tm → AMem → Prop),
    rOpsD P call ops l tm cur hist ws = some (tm', mem') → K tm' mem' → AOpsD P ops l tm cur hist ws K
  | [], tm, cur, hist, ws, tm', mem', K, h, hk => by
    simp only [rOpsD] at h
    split at h
    · rename_i hw
      simp only [Option.some.injEq, Prod.mk.injEq] at h
      obtain ⟨rfl, rfl⟩ := h; exact ⟨watchS_ok (watchB_ok hw), hk⟩
    · cases h
  | (o, p) :: rest, tm, cur, hist, ws, tm', mem', K, h, hk => by
    rw [rOpsD.eq_def] at h
    simp only at h
    rw [AOpsD.eq_def]
    simp only
    split at h
    · rename_i hw
      rw [hw]
      simp only
      cases p with
      | val =>
        simp only at h ⊢
        split at h
        · rename_i x hv; rw [hv]; exact rOpsD_ok hc rest _ _ _ _ _ _ K h hk
        · cases h
      | rd lo =>
        simp only at h ⊢
        split at h
        · rename_i t y hop
          split at h
          · rename_i M hM
            split at h
            · rename_i x hx
              rw [hop]; simp only [hM, hx]; exact rOpsD_ok hc rest _ _ _ _ _ _ K h hk
            · cases h
          · cases h
        · cases h
      | rw lo =>
        simp only at h ⊢
        split at h
        · rename_i t y hop
          split at h
          · rename_i r ver off M hy hM
            split at h
            · rename_i x hx
              rw [hop]; simp only [hy, hM, hx]; exact rOpsD_ok hc rest _ _ _ _ _ _ K h hk
            · cases h
          · cases h
        · cases h
      | ext =>
        simp only at h ⊢
        split at h
        · cases h
        · rename_i f args ts hop
          split at h
          · rename_i g cs hf
            split at h
            · rename_i ret m1 hcall
              split at h
              · rename_i hp
                obtain ⟨extra, rfl⟩ := preB_ok hp
                rw [hop]; simp only [hf]
                exact ⟨ret, extra, hc _ _ _ _ _ hcall, rOpsD_ok hc rest _ _ _ _ _ _ K h hk⟩
              · cases h
            · cases h
          · cases h
        · rename_i h1 h2
          split at h
          · rename_i x m1 hv
            split at h
            · rename_i hp
              split
              · rename_i t x y hop; exact absurd hop (h1 t x y)
              · rename_i f args ts hop; exact absurd hop (h2 f args ts)
              · simp only [hv]
                exact ⟨preB_ok hp, rOpsD_ok hc rest _ _ _ _ _ _ K h hk⟩
            · cases h
          · cases h
      | up q =>
        simp only at h ⊢
        split at h
        · rename_i x m1 hv
          split at h
          · rename_i hp
            rw [hv]
            exact ⟨upB_ok hp, rOpsD_ok hc rest _ _ _ _ _ _ K h hk⟩
          · cases h
        · cases h
      | fl =>
        simp only at h ⊢
        split at h
        · rename_i t hop hg
          split at h
          · rename_i z hz
            rw [hop, hg]; simp only [hz]; exact rOpsD_ok hc rest _ _ _ _ _ _ K h hk
          · cases h
        · cases h
      | wr =>
        simp only at h ⊢
        split at h
        · rename_i t x y hop
          split at h
          · rename_i m1 hs
            rw [hop]; simp only [hs]; exact rOpsD_ok hc rest _ _ _ _ _ _ K h hk
          · cases h
        · rename_i f args ts hop
          split at h
          · rename_i g cs hf
            split at h
            · rename_i ret m1 hcall
              rw [hop]; simp only [hf]
              exact ⟨ret, m1, hc _ _ _ _ _ hcall, rOpsD_ok hc rest _ _ _ _ _ _ K h hk⟩
            · cases h
          · cases h
        · rename_i h1 h2
          split at h
          · rename_i x m1 hv
            split
            · rename_i t x y hop; exact absurd hop (h1 t x y)
            · rename_i f args ts hop; exact absurd hop (h2 f args ts)
            · simp only [hv]
              exact rOpsD_ok hc rest _ _ _ _ _ _ K h hk
          · cases h
    · rename_i hw
      rw [hw]
      exact rOpsD_ok hc rest _ _ _ _ _ _ K h hk
    · cases h

variable {pls : Nat → List Plan} {nt L : Nat}

theorem rLoop_ok {c : Code} {f : Tm → AMem → Option (Exit × Tm × AMem)} (hf : ∀ tm mem ex tm' mem' (Q : Exit → Tm → AMem → Prop), f tm mem = some (ex, tm', mem') → Q ex tm' mem' → AW P nt c tm mem Q) :
    ∀ (n : Nat) (tm : Tm) (mem : AMem) (ex : Exit) (tm' : Tm) (mem' : AMem) (Q : Exit → Tm → AMem → Prop), rLoop f n tm mem = some (ex, tm', mem') → Q ex tm' mem' → ARounds P nt c Q n tm mem
  | 0, _, _, _, _, _, _, h, _ => by cases h
  | n + 1, tm, mem, ex, tm', mem', Q, h, hq => by
    simp only [rLoop] at h
    split at h
    · rename_i tm1 mem1 h1
      exact hf _ _ _ _ _ _ h1 (rLoop_ok hf n _ _ _ _ _ Q h hq)
    · rename_i r hne
      have hex : ex ≠ .normal := by rintro rfl; exact hne _ _ h
      refine hf _ _ _ _ _ _ h ?_
      cases ex with
      | normal => exact absurd rfl hex
      | _ => exact hq

theorem rCode_ok (hc : CallOk P call) (hfol : P.follows .mixedOrders = true) : ∀ (c : Code) (tm : Tm) (mem : AMem) (ex : Exit) (tm' : Tm) (mem' : AMem) (Q : Exit → Tm → AMem → Prop),
    rCode P call pls nt L c tm mem = some (ex, tm', mem') → Q ex tm' mem' → AW P nt c tm mem Q := by
  intro c
  induction c with
  | skip => intro tm mem ex tm' mem' Q h hq; simp only [rCode, Option.some.injEq, Prod.mk.injEq] at h; obtain ⟨rfl, rfl, rfl⟩ := h; exact AW.skip hq
  | ret => intro tm mem ex tm' mem' Q h hq; simp only [rCode, Option.some.injEq, Prod.mk.injEq] at h; obtain ⟨rfl, rfl, rfl⟩ := h; exact AW.ret hq
  | exit id => intro tm mem ex tm' mem' Q h hq; simp only [rCode, Option.some.injEq, Prod.mk.injEq] at h; obtain ⟨rfl, rfl, rfl⟩ := h; exact AW.exit hq
  | seq x y ihx ihy =>
    intro tm mem ex tm' mem' Q h hq
    simp only [rCode] at h
    split at h
    · rename_i tm1 mem1 h1
      exact AW.seq (ihx _ _ _ _ _ _ h1 (ihy _ _ _ _ _ _ h hq))
    · rename_i r hne
      have hex : ex ≠ .normal := by rintro rfl; exact hne _ _ h
      refine AW.seq (ihx _ _ _ _ _ _ h ?_)
      cases ex with
      | normal => exact absurd rfl hex
      | _ => exact hq
  | block id c ih =>
    intro tm mem ex tm' mem' Q h hq
    simp only [rCode] at h
    refine AW.block ?_
    split at h
    · rename_i id' tm1 mem1 h1
      refine ih _ _ _ _ _ _ h1 ?_
      split at h
      · rename_i he
        simp only [Option.some.injEq, Prod.mk.injEq] at h; obtain ⟨rfl, rfl, rfl⟩ := h
        subst he; exact InB_here hq
      · rename_i he
        simp only [Option.some.injEq, Prod.mk.injEq] at h; obtain ⟨rfl, rfl, rfl⟩ := h
        exact InB_far he hq
    · rename_i r hne
      refine ih _ _ _ _ _ _ h ?_
      cases ex with
      | exit id' => exact absurd h (hne _ _ _)
      | _ => exact hq
  | cond c x y ihx ihy =>
    intro tm mem ex tm' mem' Q h hq
    simp only [rCode] at h
    split at h
    · rename_i hb; exact AW.cond_t hb (ihx _ _ _ _ _ _ h hq)
    · rename_i hb; exact AW.cond_f hb (ihy _ _ _ _ _ _ h hq)
    · cases h
  | loop c ih =>
    intro tm mem ex tm' mem' Q h hq
    simp only [rCode] at h
    exact AW.rounds L (rLoop_ok ih _ _ _ _ _ _ _ h hq)
  | region id ops b =>
    intro tm mem ex tm' mem' Q h hq
    cases b with
    | false =>
      simp only [rCode] at h
      split at h
      · rename_i hd
        simp only [Option.map_eq_some_iff, Prod.mk.injEq] at h
        obtain ⟨⟨tm1, mem1⟩, h1, rfl, rfl, rfl⟩ := h
        have h2 : AOps P ops ops.toList tm mem (Q .normal) := rOps_ok hc _ _ _ _ _ _ h1 hq
        have h3 := AW.region (P := P) (nt := nt) (id := id) (l := ops.toList) (tm := tm) (mem := mem) (Q := Q) hd (by simpa using h2)
        simpa using h3
      · cases h
    | true =>
      simp only [rCode] at h
      split at h
      · rename_i hd
        simp only [Option.map_eq_some_iff, Prod.mk.injEq] at h
        obtain ⟨⟨tm1, mem1⟩, h1, rfl, rfl, rfl⟩ := h
        have h2 := rOpsD_ok hc _ _ _ _ _ _ _ (Q .normal) h1 hq
        have h3 := AW.draw (P := P) (nt := nt) (id := id) (l := ops.toList) (tm := tm) (mem := mem) (Q := Q) (pls id) hfol hd.1 hd.2 (by simpa using h2)
        simpa using h3
      · cases h
  | _ => intro tm mem ex tm' mem' Q h hq; simp only [rCode] at h; cases h
end

theorem Hands.all {x : AV} {mem : AMem} {L : Nat} : Hands L x mem x mem := fun ρ v w hv hm => ⟨ρ, hv, hm, fun _ _ _ _ h => h⟩

theorem rFunc_ok {P : Program} {pls : Nat → Nat → List Plan} {L : Nat} (hfol : P.follows .mixedOrders = true) : ∀ n : Nat, CallOk P (rFunc P pls L n)
  | 0 => fun g args mem ret mem' h => by cases h
  | n + 1 => fun g args mem ret mem' h => by
    simp only [rFunc] at h
    split at h
    · rename_i fn hfn
      split at h
      · rename_i c hb
        split at h
        · rename_i hname
          have ok := rFunc_ok (P := P) (pls := pls) (L := L) hfol n
          split at h
          · rename_i tm m hr
            simp only [Option.map_eq_some_iff, Prod.mk.injEq] at h
            obtain ⟨x, hx, rfl, rfl⟩ := h
            exact Ctr.of_body hfn hb hname fun hw => rCode_ok ok hfol _ _ _ _ _ _ _ hr ⟨.inl rfl, x, hx, Hands.all⟩
          · rename_i tm m hr
            simp only [Option.map_eq_some_iff, Prod.mk.injEq] at h
            obtain ⟨x, hx, rfl, rfl⟩ := h
            exact Ctr.of_body hfn hb hname fun hw => rCode_ok ok hfol _ _ _ _ _ _ _ hr ⟨.inr rfl, x, hx, Hands.all⟩
          · cases h
        · cases h
      · cases h
    · cases h

/-- What is reckoned with no memory at hand, and leads to none, holds in every memory. -/
theorem Ctr.closed {P : Program} {f : FuncId} {args : List AV} {ret : AV} {mem' : AMem} (h : Ctr P f args [] ret mem') (ha : ∀ a, a ∈ args → a.below 0 = true) (hr : ret.below 0 = true) (m : AMem) : Ctr P f args m ret m := by
  refine fun ρ w vs hm hargs => ?_
  have h0 : RepM (ρ.upto 0) [] w := ⟨fun r b h => by simp at h, fun r v _ => by simp [Env.upto], fun r b v h => by simp at h, fun r s b c h => by simp at h⟩
  have hargs' : ∀ {xa : List AV} {vs : List Value}, (∀ a, a ∈ xa → a.below 0 = true) → All2 (VR ρ) xa vs → All2 (VR (ρ.upto 0)) xa vs := by
    intro xa
    induction xa with
    | nil => intro vs _ h; cases vs with
      | nil => trivial
      | cons _ _ => exact h.elim
    | cons a xa ih => intro vs hb h; cases vs with
      | nil => exact h.elim
      | cons v vs => exact ⟨h.1.upto (hb a List.mem_cons_self), ih (fun a ha => hb a (List.mem_cons_of_mem _ ha)) h.2⟩
  refine (h _ w vs h0 (hargs' ha hargs)).mono ?_
  rintro e w' ⟨v, ρ', rfl, hv, hm', hs⟩
  have hfr : ∀ n, n < w.heap.size → w'.heap[n]? = w.heap[n]? := fun n hn => hs.frame n hn fun r b x k hb => by simp at hb
  have hm2 : RepM ρ m w' := by
    refine ⟨fun r b hb => ?_, hm.dom, hm.domv, hm.sep⟩
    exact (hm.blk r b hb).heap hs.size fun x k hx hne hlt => hfr _ hlt
  refine ⟨v, ρ, rfl, ?_, hm2, ?_⟩
  · exact (hv.upto hr).mono (fun r v x hx => by simp [Env.upto] at hx)
  · exact ⟨hs.os, hs.tape, hs.output, hs.size, Nat.le_refl _, fun _ _ _ _ h => h, fun r b b' h h' => by rw [h] at h'; injection h' with h'; rw [h'], fun r b h _ => h, fun n hn _ => hfr n hn, fun r b x k h hk hx => .inr ⟨r, b, x, k, h, hk, hx, rfl⟩⟩

/-- A call whose arguments are known, reckoned by the machine. -/
theorem Ctr.run {P : Program} {f : FuncId} {args : List AV} {ret : AV} (pls : Nat → Nat → List Plan) (L n : Nat) (hfol : P.follows .mixedOrders = true) (h : ((rFunc P pls L n f args []).map (·.1)) = some ret) (ha : ∀ a, a ∈ args → a.below 0 = true) (hr : ret.below 0 = true) (m : AMem) : Ctr P f args m ret m := by
  rw [Option.map_eq_some_iff] at h
  obtain ⟨⟨x, mem'⟩, h1, rfl⟩ := h
  exact Ctr.closed (rFunc_ok hfol n _ _ _ _ _ h1) ha hr m
end Go.Eng

/-
  ENGINE, PART P: a nil slice taken as a row of our own with nothing in it; loops whose rounds make blocks.
-/
set_option linter.unusedVariables false
set_option linter.unusedSimpArgs false
namespace Go.Eng
open Go

theorem set_self {α : Type} : ∀ {l : List α} {j : Nat} {v : α}, l[j]? = some v → l.set j v = l
  | [], _, _, _ => rfl
  | x :: l, 0, v, h => by simp at h; subst h; rfl
  | x :: l, j + 1, v, h => by simp at h; simp [set_self h]
theorem All2.set_left {α β : Type} {R : α → β → Prop} {xa : List α} {bs : List β} (h : All2 R xa bs) {j : Nat} {a : α} {b : β} (hb : bs[j]? = some b) (hr : R a b) : All2 R (xa.set j a) bs := by
  have := h.set (i := j) hr
  rwa [set_self hb] at this

section
variable {P : Program} {nt : Nat} {tm : Tm} {mem : AMem}
theorem nil_row {ρ : Env} {L : Nat} {v : Value} (h : VC ρ .nils v) : VC (ρ.set L 0 (none, 0)) (.sl L 0 0 0) v := by
  have e : v = .slice none 0 0 := h
  subst e
  exact ⟨none, 0, none, 0, Env.set_same _ _ _ _, rfl, Nat.le_refl _, fun h => by omega, fun _ => ⟨rfl, rfl⟩⟩

theorem Rep.nilRow {ρ : Env} {a : Act} {w : World} (hr : Rep ρ nt tm mem a w) (ty esz : Nat) (mem1 : AMem) (hlen : mem1.length = mem.length) (hk : ∀ (r : Nat) (b1 : Blk), mem1[r]? = some b1 → ∃ b, mem[r]? = some b ∧ b1.kind = b.kind ∧ b1.ver = b.ver ∧ (b.kind = .ro → b1 = b))
    (hb : ∀ (r : Nat) (b1 : Blk), mem1[r]? = some b1 → BlkR (ρ.set mem.length 0 (none, 0)) w r b1) (tm1 : Tm) (ht : ∀ i, VR (ρ.set mem.length 0 (none, 0)) (Tm.get tm1 i) (a.tmps.getD i undef)) :
    Rep (ρ.set mem.length 0 (none, 0)) nt tm1 (mem1 ++ [⟨.grow, ty, 0, esz, []⟩]) a w ∧ ∀ m0 ρ0 w0, Step m0 ρ0 w0 mem ρ w → Step m0 ρ0 w0 (mem1 ++ [⟨.grow, ty, 0, esz, []⟩]) (ρ.set mem.length 0 (none, 0)) w := by
  have hle : ρ.le (ρ.set mem.length 0 (none, 0)) := Env.le_set (hr.mem.dom _ _ (Nat.le_refl _))
  have hgt : ∀ {s : Nat} {d : Blk}, (mem1 ++ [⟨.grow, ty, 0, esz, []⟩])[s]? = some d → (s < mem.length ∧ mem1[s]? = some d) ∨ (s = mem.length ∧ d = ⟨.grow, ty, 0, esz, []⟩) := by
    intro s d hd
    rcases Nat.lt_or_ge s mem1.length with h | h
    · rw [List.getElem?_append_left h] at hd; exact .inl ⟨by omega, hd⟩
    · rw [List.getElem?_append_right h] at hd
      have hl := (List.getElem?_eq_some_iff.1 hd).1
      simp at hl
      have : s = mem.length := by omega
      subst this
      simp [hlen] at hd
      exact .inr ⟨rfl, hd.symm⟩
  have hoth : ∀ {s v : Nat}, s < mem.length → ρ.set mem.length 0 (none, 0) s v = ρ s v := fun {s v} h => Env.set_other ρ _ (by omega)
  refine ⟨⟨hr.size, ht, ⟨?_, ?_, ?_, ?_⟩⟩, ?_⟩
  · intro s d hd
    rcases hgt hd with ⟨_, h1⟩ | ⟨rfl, rfl⟩
    · exact hb s d h1
    · exact .inl ⟨rfl, Env.set_same _ _ _ _⟩
  · intro s v hs
    simp at hs
    rw [Env.set_other ρ _ (by omega)]
    exact hr.mem.dom s v (by omega)
  · intro s d v hd hv
    rcases hgt hd with ⟨hl, h1⟩ | ⟨rfl, rfl⟩
    · obtain ⟨b, h2, _, h3, _⟩ := hk s d h1
      rw [hoth hl]; exact hr.mem.domv s b v h2 (by omega)
    · simp only at hv
      rw [Env.set_other ρ _ (by omega)]
      exact hr.mem.dom _ _ (Nat.le_refl _)
  · intro s t d e hd he hst hkd hne x y k1 k2 hx hy
    rcases hgt hd with ⟨hl, h1⟩ | ⟨rfl, rfl⟩
    · rcases hgt he with ⟨hl', h1'⟩ | ⟨rfl, rfl⟩
      · obtain ⟨b, h2, h3, h4, h5⟩ := hk s d h1
        obtain ⟨b', h2', h3', h4', h5'⟩ := hk t e h1'
        rw [hoth hl, h4] at hx
        rw [hoth hl', h4'] at hy
        exact hr.mem.sep s t b b' h2 h2' hst (by rw [← h3]; exact hkd) (fun h => by rw [← h5' h]; exact hne (by rw [h3']; exact h)) x y k1 k2 hx hy
      · simp only [Env.set_same] at hy
        injection hy with hy; injection hy with hy _; cases hy
    · simp only [Env.set_same] at hx
      injection hx with hx; injection hx with hx _; cases hx
  · intro m0 ρ0 w0 hs
    refine ⟨hs.os, hs.tape, hs.output, hs.size, ?_, fun r hr v x hx => hle _ _ _ (hs.ext r hr v x hx), ?_, ?_, ?_, ?_⟩
    · have := hs.len; simp; omega
    · intro r b b' hb0 hb'
      have hl0 := (List.getElem?_eq_some_iff.1 hb0).1
      have := hs.len
      rcases hgt hb' with ⟨hl, h1⟩ | ⟨rfl, rfl⟩
      · obtain ⟨b2, h2, h3, _, _⟩ := hk r b' h1
        rw [h3]; exact hs.kind r b b2 hb0 h2
      · omega
    · intro r b' hb' hro
      rcases hgt hb' with ⟨hl, h1⟩ | ⟨rfl, rfl⟩
      · obtain ⟨b2, h2, h3, _, h5⟩ := hk r b' h1
        have e := h5 (by rw [← h3]; exact hro)
        subst e
        exact hs.ro r b' h2 hro
      · cases hro
    · exact hs.frame
    · intro r b' x k hb' hkd hx
      rcases hgt hb' with ⟨hl, h1⟩ | ⟨rfl, rfl⟩
      · obtain ⟨b2, h2, h3, h4, h5⟩ := hk r b' h1
        rw [hoth hl, h4] at hx
        exact hs.fresh r b2 x k h2 (by rw [← h3]; exact hkd) hx
      · simp only [Env.set_same] at hx
        injection hx with hx; injection hx with hx _; cases hx

theorem BlkR.nilCell {ρ ρ' : Env} (hle : ρ.le ρ') {w : World} {r : Nat} {b : Blk} (hb : BlkR ρ w r b) (hk : b.kind ≠ .ro) {j : Nat} (hj : b.cells[j]? = some .nils) {c : CV} (hc : ∀ v, VC ρ .nils v → VC ρ' c v) : BlkR ρ' w r { b with cells := b.cells.set j c } := by
  obtain ⟨kind, ty, ver, esz, cells⟩ := b
  cases kind with
  | fix =>
    obtain ⟨n, cs, k, h1, h2, h3, hkk⟩ := hb
    obtain ⟨v, hv, hr⟩ := h3.get hj
    exact ⟨n, cs, k, hle _ _ _ h1, h2, (h3.mono fun _ _ => VC.mono hle).set_left hv (hc v hr), hkk⟩
  | grow =>
    rcases hb with ⟨h1, h2⟩ | ⟨n, cs, cap, xs, sp, h1, h2, h3, hcm, h4, h5⟩
    · simp only at h1; subst h1; simp at hj
    · obtain ⟨v, hv, hr⟩ := h5.get hj
      exact .inr ⟨n, cs, cap, xs, sp, hle _ _ _ h1, h2, h3, hcm, h4, (h5.mono fun _ _ => VC.mono hle).set_left hv (hc v hr)⟩
  | ro => exact absurd rfl hk
  | map ka va clock es => obtain ⟨n, o, k, _, _, _, h⟩ := hb; simp only at h; subst h; simp at hj
  | iter rm since seen last => obtain ⟨n, N, k, k', _, _, _, h⟩ := hb; simp only at h; subst h; simp at hj

/-- A nil slice in a cell of a block of our own, taken as a row with nothing in it. -/
theorem AW.nilCell {c : Code} {Q : Exit → Tm → AMem → Prop} (ty esz : Nat) (r j : Nat) {b : Blk} (hb : mem[r]? = some b) (hk : b.kind ≠ .ro) (hj : b.cells[j]? = some .nils)
    (h : AW P nt c tm (mem.set r { b with cells := b.cells.set j (.sl mem.length 0 0 0) } ++ [⟨.grow, ty, 0, esz, []⟩]) Q) : AW P nt c tm mem Q := by
  intro ρ a w hr
  have hle : ρ.le (ρ.set mem.length 0 (none, 0)) := Env.le_set (hr.mem.dom _ _ (Nat.le_refl _))
  have hrl := (List.getElem?_eq_some_iff.1 hb).1
  have hgt : ∀ {s : Nat} {d : Blk}, (mem.set r { b with cells := b.cells.set j (.sl mem.length 0 0 0) })[s]? = some d → (s ≠ r ∧ mem[s]? = some d) ∨ (s = r ∧ d = { b with cells := b.cells.set j (.sl mem.length 0 0 0) }) := by
    intro s d hd
    by_cases hs : s = r
    · subst hs; rw [List.getElem?_set_self hrl] at hd; injection hd with hd; exact .inr ⟨rfl, hd.symm⟩
    · rw [List.getElem?_set_ne (fun e => hs e.symm)] at hd; exact .inl ⟨hs, hd⟩
  obtain ⟨h1, h2⟩ := hr.nilRow ty esz (mem.set r { b with cells := b.cells.set j (.sl mem.length 0 0 0) }) (by simp) (fun s d hd => by
      rcases hgt hd with ⟨_, h1⟩ | ⟨e1, e2⟩
      · exact ⟨d, h1, rfl, rfl, fun _ => rfl⟩
      · subst e1; subst e2; exact ⟨b, hb, rfl, rfl, fun h => absurd h hk⟩) (fun s d hd => by
      rcases hgt hd with ⟨_, h1⟩ | ⟨e1, e2⟩
      · exact (hr.mem.blk s d h1).mono hle
      · subst e1; subst e2; exact (hr.mem.blk s b hb).nilCell hle hk hj fun v hv => nil_row hv) tm (fun i => (hr.tm i).mono hle)
  refine wp_mono (h _ a w h1) ?_
  rintro e a' w' ⟨ρ2, tm2, mem2, hr2, hs2, hd, hq⟩
  exact ⟨ρ2, tm2, mem2, hr2, (h2 mem ρ w (Step.refl _ _ _)).trans hs2, hd, hq⟩

/-- The same of a temporary. -/
theorem AW.nilTm {c : Code} {Q : Exit → Tm → AMem → Prop} (ty esz : Nat) (d : Nat) (hd : Tm.get tm d = .one .nils)
    (h : AW P nt c ((d, .one (.sl mem.length 0 0 0)) :: tm) (mem ++ [⟨.grow, ty, 0, esz, []⟩]) Q) : AW P nt c tm mem Q := by
  intro ρ a w hr
  have hle : ρ.le (ρ.set mem.length 0 (none, 0)) := Env.le_set (hr.mem.dom _ _ (Nat.le_refl _))
  obtain ⟨h1, h2⟩ := hr.nilRow ty esz mem rfl (fun s d hd => ⟨d, hd, rfl, rfl, fun _ => rfl⟩) (fun s d hd => (hr.mem.blk s d hd).mono hle) ((d, .one (.sl mem.length 0 0 0)) :: tm) (fun i => by
    rw [Tm.get_put]
    by_cases hi : i = d
    · subst hi
      rw [if_pos rfl]
      have := hr.tm i
      rw [hd] at this
      exact nil_row this
    · rw [if_neg hi]; exact (hr.tm i).mono hle)
  refine wp_mono (h _ a w h1) ?_
  rintro e a' w' ⟨ρ2, tm2, mem2, hr2, hs2, hd, hq⟩
  exact ⟨ρ2, tm2, mem2, hr2, (h2 mem ρ w (Step.refl _ _ _)).trans hs2, hd, hq⟩

def nilC (L : Nat) (c c' : CV) : Prop := c' = c ∨ (c = .nils ∧ c' = .sl L 0 0 0)
def nilV (L : Nat) : AV → AV → Prop
  | .one c, .one c' => nilC L c c'
  | .agg cs, .agg cs' => All2 (nilC L) cs cs'
  | .tup ts, .tup ts' => All2 (fun t t' => t.1 = t'.1 ∧ All2 (nilC L) t.2 t'.2) ts ts'
  | _, _ => False
theorem nilC_sound {ρ : Env} {L : Nat} (hle : ρ.le (ρ.set L 0 (none, 0))) {c c' : CV} {v : Value} (h : nilC L c c') (hv : VC ρ c v) : VC (ρ.set L 0 (none, 0)) c' v := by
  rcases h with rfl | ⟨rfl, rfl⟩
  · exact hv.mono hle
  · exact nil_row hv
theorem nilL_sound {ρ : Env} {L : Nat} (hle : ρ.le (ρ.set L 0 (none, 0))) : ∀ {cs cs' : List CV} {vs : List Value}, All2 (nilC L) cs cs' → All2 (VC ρ) cs vs → All2 (VC (ρ.set L 0 (none, 0))) cs' vs
  | [], [], [], _, _ => trivial
  | c :: cs, c' :: cs', v :: vs, h, hv => ⟨nilC_sound hle h.1 hv.1, nilL_sound hle h.2 hv.2⟩
  | [], _ :: _, _, h, _ => h.elim
  | _ :: _, [], _, h, _ => h.elim
  | [], [], _ :: _, _, h => h.elim
  | _ :: _, _ :: _, [], _, h => h.elim
theorem nilT_sound {ρ : Env} {L : Nat} (hle : ρ.le (ρ.set L 0 (none, 0))) {t t' : Bool × List CV} {v : Value} (h : t.1 = t'.1 ∧ All2 (nilC L) t.2 t'.2) (hv : TV ρ t v) : TV (ρ.set L 0 (none, 0)) t' v := by
  obtain ⟨b, cs⟩ := t
  obtain ⟨b', cs'⟩ := t'
  obtain ⟨h1, h2⟩ := h
  simp only at h1 h2
  subst h1
  cases b with
  | true => obtain ⟨vs, e, hvs⟩ := hv; exact ⟨vs, e, nilL_sound hle h2 hvs⟩
  | false =>
    match cs, cs', h2, hv with
    | [], [], _, _ => trivial
    | [c], [c'], h2, hv => exact nilC_sound hle h2.1 hv
    | _ :: _ :: _, _ :: _ :: _, _, _ => trivial
    | [], _ :: _, h2, _ => exact h2.elim
    | _ :: _, [], h2, _ => exact h2.elim
    | [_], _ :: _ :: _, h2, _ => exact h2.2.elim
    | _ :: _ :: _, [_], h2, _ => exact h2.2.elim
theorem nilTs_sound {ρ : Env} {L : Nat} (hle : ρ.le (ρ.set L 0 (none, 0))) : ∀ {ts ts' : List (Bool × List CV)} {vs : List Value}, All2 (fun t t' => t.1 = t'.1 ∧ All2 (nilC L) t.2 t'.2) ts ts' → All2 (TV ρ) ts vs → All2 (TV (ρ.set L 0 (none, 0))) ts' vs
  | [], [], [], _, _ => trivial
  | c :: cs, c' :: cs', v :: vs, h, hv => ⟨nilT_sound hle h.1 hv.1, nilTs_sound hle h.2 hv.2⟩
  | [], _ :: _, _, h, _ => h.elim
  | _ :: _, [], _, h, _ => h.elim
  | [], [], _ :: _, _, h => h.elim
  | _ :: _, _ :: _, [], _, h => h.elim
theorem nilV_sound {ρ : Env} {L : Nat} (hle : ρ.le (ρ.set L 0 (none, 0))) {x x' : AV} {v : Value} (h : nilV L x x') (hv : VR ρ x v) : VR (ρ.set L 0 (none, 0)) x' v := by
  match x, x', h, hv with
  | .one c, .one c', h, hv => exact nilC_sound hle h hv
  | .agg cs, .agg cs', h, hv => obtain ⟨vs, e, hvs⟩ := hv; exact ⟨vs, e, nilL_sound hle h hvs⟩
  | .tup ts, .tup ts', h, hv => obtain ⟨vs, e, hvs⟩ := hv; exact ⟨vs, e, nilTs_sound hle h hvs⟩
  | .one _, .agg _, h, _ => exact h.elim
  | .one _, .tup _, h, _ => exact h.elim
  | .agg _, .one _, h, _ => exact h.elim
  | .agg _, .tup _, h, _ => exact h.elim
  | .tup _, .one _, h, _ => exact h.elim
  | .tup _, .agg _, h, _ => exact h.elim

/-- A nil slice that is handed back, taken as a row with nothing in it. -/
theorem Ctr.nil {f : FuncId} {args : List AV} {m m' : AMem} {ret ret' : AV} (h : Ctr P f args m ret m') (ty esz : Nat) (hv : nilV m'.length ret ret') : Ctr P f args m ret' (m' ++ [⟨.grow, ty, 0, esz, []⟩]) := by
  refine fun ρ w vs hm hargs => (h ρ w vs hm hargs).mono ?_
  rintro e w' ⟨v, ρ', rfl, hvr, hm', hs⟩
  have hle : ρ'.le (ρ'.set m'.length 0 (none, 0)) := Env.le_set (hm'.dom _ _ (Nat.le_refl _))
  have hr : Rep ρ' 0 [] m' ⟨#[], []⟩ w' := ⟨by simp, fun i => trivial, hm'⟩
  obtain ⟨h1, h2⟩ := hr.nilRow ty esz m' rfl (fun s d hd => ⟨d, hd, rfl, rfl, fun _ => rfl⟩) (fun s d hd => (hm'.blk s d hd).mono hle) [] (fun i => trivial)
  exact ⟨v, _, rfl, nilV_sound hle hv hvr, h1.mem, h2 _ _ _ hs⟩
end

theorem all2_cons {α β : Type} {R : α → β → Prop} {t : α} {ts : List α} {l : List β} (h : All2 R (t :: ts) l) : ∃ a xa, l = a :: xa ∧ R t a ∧ All2 R ts xa := by
  cases l with
  | nil => exact h.elim
  | cons a xa => exact ⟨a, xa, rfl, h.1, h.2⟩
theorem all2_nil {α β : Type} {R : α → β → Prop} {l : List β} (h : All2 R ([] : List α) l) : l = [] := by
  cases l with
  | nil => rfl
  | cons a xa => exact h.elim
end Go.Eng

/-
  ENGINE, PART Q: a region that draws its order, where operations that make memory are left unordered: it is parted by which of two comes first, and each part is reckoned in an order of its own.
-/
set_option linter.unusedVariables false
set_option linter.unusedSimpArgs false
namespace Go.Eng
open Go

def bef (σ : List Nat) (i j : Nat) : Prop := σ.idxOf i < σ.idxOf j

/-- An order in which the operations of a region may run. -/
structure Lin (ops : Array Oper) (σ : List Nat) : Prop where
  nd : σ.Nodup
  all : ∀ i, i ∈ σ ↔ i < ops.size
  ord : ∀ (j : Nat) (o : Oper), ops[j]? = some o → ∀ e, e ∈ o.after → Region.binds .any e = true → bef σ e.on j

def backB (ops : List Oper) : Bool := (List.range ops.length).all fun j => match ops[j]? with
  | some o => o.after.all fun e => !Region.binds .any e || decide (e.on < j)
  | none => true
theorem backB_ok {l : List Oper} (h : backB l = true) : ∀ (j : Nat) (o : Oper), l.toArray[j]? = some o → ∀ e, e ∈ o.after → Region.binds .any e = true → e.on < j := by
  intro j o hj e he hb
  have hj' : l[j]? = some o := by simpa using hj
  have h1 := List.all_eq_true.1 h j (List.mem_range.2 (List.getElem?_eq_some_iff.1 hj').1)
  rw [hj'] at h1
  have h2 := Array.all_eq_true_iff_forall_mem.1 h1 e he
  simpa [hb] using h2

theorem idxOf_cons' (i : Nat) (σ : List Nat) (k : Nat) : (i :: σ).idxOf k = if k = i then 0 else σ.idxOf k + 1 := by
  rw [List.idxOf_cons]
  by_cases h : k = i
  · subst h; simp
  · have h1 : (i == k) = false := by simpa using fun e => h e.symm
    rw [if_neg h, h1]; rfl

theorem get_idxOf : ∀ {σ : List Nat} {i : Nat}, i ∈ σ → σ[σ.idxOf i]? = some i
  | k :: σ, i, h => by
    rw [idxOf_cons']
    by_cases e : i = k
    · subst e; simp
    · rw [if_neg e]
      rcases List.mem_cons.1 h with h | h
      · exact absurd h e
      · simpa using get_idxOf h

theorem getD_set (l : Array Bool) (i k : Nat) (d : Bool) (hi : i < l.size) : (l.setIfInBounds i true).getD k d = if k = i then true else l.getD k d := by
  simp only [Array.getD_eq_getD_getElem?]
  by_cases h : k = i
  · subst h; simp [Array.getElem?_setIfInBounds_self_of_lt, hi]
  · rw [if_neg h, Array.getElem?_setIfInBounds_ne (fun e => h e.symm)]

def unl (n : Nat) (listed : Array Bool) : Nat := (List.range n).countP fun i => !listed.getD i true

theorem go_facts {ops : Array Oper} (hback : ∀ (j : Nat) (o : Oper), ops[j]? = some o → ∀ e, e ∈ o.after → Region.binds .any e = true → e.on < j) :
    ∀ (fuel t : Nat) (listed : Array Bool), listed.size = ops.size → unl ops.size listed ≤ fuel →
      (∀ i, i ∈ Region.linearise.go .any ops fuel t listed [] ↔ (i < ops.size ∧ listed.getD i true = false)) ∧ (Region.linearise.go .any ops fuel t listed []).Nodup ∧
      ∀ (j : Nat) (o : Oper), ops[j]? = some o → listed.getD j true = false → ∀ e, e ∈ o.after → Region.binds .any e = true → listed.getD e.on false = true ∨ bef (Region.linearise.go .any ops fuel t listed []) e.on j := by
  have hnone : ∀ (listed : Array Bool), listed.size = ops.size → Region.ready .any ops listed = [] → ∀ j, j < ops.size → listed.getD j true = true := by
    intro listed hsz hr j
    induction j using Nat.strongRecOn with
    | _ j ih =>
      intro hj
      cases hl : listed.getD j true with
      | true => rfl
      | false =>
        exfalso
        have hm : j ∈ Region.ready .any ops listed := by
          simp only [Region.ready, List.mem_filter, List.mem_range]
          refine ⟨hj, ?_⟩
          rw [hl, Array.getElem?_eq_getElem hj]
          simp only [Bool.not_false, Option.map_some, Option.getD_some, Bool.true_and]
          refine Array.all_eq_true_iff_forall_mem.2 fun e he => ?_
          cases hb : Region.binds .any e with
          | false => rfl
          | true =>
            have hlt := hback j _ (Array.getElem?_eq_getElem hj) e he hb
            have h1 := ih e.on hlt (by omega)
            simp only [Bool.not_true, Bool.false_or]
            have : e.on < listed.size := by omega
            simpa [Array.getD_eq_getD_getElem?, this] using h1
        rw [hr] at hm
        cases hm
  intro fuel
  induction fuel with
  | zero =>
    intro t listed hsz hc
    have h0 : ∀ i, i < ops.size → listed.getD i true = true := fun i hi => by
      cases hl : listed.getD i true with
      | true => rfl
      | false =>
        have : 0 < unl ops.size listed := List.countP_pos_iff.2 ⟨i, List.mem_range.2 hi, by simp only [hl, Bool.not_false]⟩
        omega
    simp only [Region.linearise.go]
    refine ⟨fun i => ⟨fun h => (by simp at h), fun h => ?_⟩, (by simp), fun j o hj hl e he hb => ?_⟩
    · have := h0 i h.1; rw [this] at h; cases h.2
    · have := h0 j (Array.getElem?_eq_some_iff.1 hj).1; rw [this] at hl; cases hl
  | succ fuel ih =>
    intro t listed hsz hc
    simp only [Region.linearise.go]
    change (∀ i, i ∈ (match (Region.ready .any ops listed)[t % (Region.ready .any ops listed).length]? with
      | some i => Region.linearise.go .any ops fuel (t / (Region.ready .any ops listed).length) (listed.setIfInBounds i true) [i]
      | none => [].reverse) ↔ (i < ops.size ∧ listed.getD i true = false)) ∧ (match (Region.ready .any ops listed)[t % (Region.ready .any ops listed).length]? with
      | some i => Region.linearise.go .any ops fuel (t / (Region.ready .any ops listed).length) (listed.setIfInBounds i true) [i]
      | none => [].reverse).Nodup ∧ ∀ (j : Nat) (o : Oper), ops[j]? = some o → listed.getD j true = false → ∀ e, e ∈ o.after → Region.binds .any e = true → listed.getD e.on false = true ∨ bef (match (Region.ready .any ops listed)[t % (Region.ready .any ops listed).length]? with
      | some i => Region.linearise.go .any ops fuel (t / (Region.ready .any ops listed).length) (listed.setIfInBounds i true) [i]
      | none => [].reverse) e.on j
    cases hi : (Region.ready .any ops listed)[t % (Region.ready .any ops listed).length]? with
    | none =>
      have hnil : Region.ready .any ops listed = [] := by
        cases hr : Region.ready .any ops listed with
        | nil => rfl
        | cons x xs =>
          rw [hr] at hi
          have hlt : t % (x :: xs).length < (x :: xs).length := Nat.mod_lt _ (by simp)
          simp at hi
          simp at hlt
          omega
      have h0 := hnone listed hsz hnil
      refine ⟨fun i => ⟨fun h => (by simp at h), fun h => ?_⟩, (by simp), fun j o hj hl e he hb => ?_⟩
      · have := h0 i h.1; rw [this] at h; cases h.2
      · have := h0 j (Array.getElem?_eq_some_iff.1 hj).1; rw [this] at hl; cases hl
    | some i =>
      have hm := List.mem_of_getElem? hi
      simp only [Region.ready, List.mem_filter, List.mem_range, Bool.and_eq_true, Bool.not_eq_true'] at hm
      obtain ⟨hil, hiu, hie⟩ := hm
      simp only []
      rw [linearise_go_acc, List.reverse_singleton, List.singleton_append]
      have hsz' : (listed.setIfInBounds i true).size = ops.size := by simpa using hsz
      have hget : ∀ k d, (listed.setIfInBounds i true).getD k d = if k = i then true else listed.getD k d := fun k d => getD_set _ _ _ _ (by omega)
      have hcnt : unl ops.size (listed.setIfInBounds i true) < unl ops.size listed := by
        refine countP_lt (fun k _ hk => ?_) i (List.mem_range.2 hil) (by rw [hiu]; rfl) (by rw [hget, if_pos rfl]; rfl)
        rw [hget] at hk
        by_cases e : k = i
        · rw [if_pos e] at hk; cases hk
        · rw [if_neg e] at hk; exact hk
      obtain ⟨h1, h2, h3⟩ := ih (t / (Region.ready .any ops listed).length) (listed.setIfInBounds i true) hsz' (by omega)
      generalize Region.linearise.go .any ops fuel (t / (Region.ready .any ops listed).length) (listed.setIfInBounds i true) [] = τ at *
      have hin : i ∉ τ := fun h => by
        have := ((h1 i).1 h).2
        rw [hget, if_pos rfl] at this; cases this
      refine ⟨fun k => ?_, List.nodup_cons.2 ⟨hin, h2⟩, fun j o hj hl e he hb => ?_⟩
      · rw [List.mem_cons, h1 k, hget]
        by_cases e : k = i
        · subst e; simp [hil, hiu]
        · rw [if_neg e]; simp [e]
      · unfold bef
        rw [idxOf_cons', idxOf_cons']
        by_cases ej : j = i
        · subst ej
          rw [hj] at hie
          simp only [Option.map_some, Option.getD_some] at hie
          have := Array.all_eq_true_iff_forall_mem.1 hie e he
          simp only [hb, Bool.not_true, Bool.false_or] at this
          exact .inl this
        · rw [if_neg ej]
          rcases h3 j o hj (by rw [hget, if_neg ej]; exact hl) e he hb with h | h
          · rw [hget] at h
            by_cases eo : e.on = i
            · exact .inr (by rw [if_pos eo]; omega)
            · rw [if_neg eo] at h; exact .inl h
          · right
            unfold bef at h
            split <;> omega

theorem lin_of {ops : Array Oper} (hback : ∀ (j : Nat) (o : Oper), ops[j]? = some o → ∀ e, e ∈ o.after → Region.binds .any e = true → e.on < j) (t : Nat) : Lin ops (Region.linearise .any ops t) := by
  have hrep : ∀ k, (Array.replicate ops.size false).getD k false = false := fun k => by
    simp only [Array.getD_eq_getD_getElem?, Array.getElem?_replicate]; split <;> rfl
  have hrep' : ∀ k, k < ops.size → (Array.replicate ops.size false).getD k true = false := fun k hk => by
    simp only [Array.getD_eq_getD_getElem?, Array.getElem?_replicate]; rw [if_pos hk]; rfl
  have h := go_facts hback ops.size t (Array.replicate ops.size false) (by simp) (by
    unfold unl
    have := List.countP_le_length (p := fun i => !(Array.replicate ops.size false).getD i true) (l := List.range ops.size)
    simpa using this)
  refine ⟨h.2.1, fun i => ?_, fun j o hj e he hb => ?_⟩
  · rw [show Region.linearise .any ops t = Region.linearise.go .any ops ops.size t (Array.replicate ops.size false) [] from rfl, h.1 i]
    exact ⟨fun h => h.1, fun h => ⟨h, hrep' i h⟩⟩
  · rcases h.2.2 j o hj (hrep' j (Array.getElem?_eq_some_iff.1 hj).1) e he hb with h1 | h1
    · rw [hrep] at h1; cases h1
    · exact h1

theorem wpAny_lin {P : Program} {ops : Array Oper} {Q : Exit → Act → World → Prop} {σ : List Nat} (hl : Lin ops σ) :
    ∀ (suf pre : List Nat) (fuel : Nat) (listed : Array Bool) (a : Act) (w : World), pre ++ suf = σ → listed.size = ops.size → (∀ k, k < ops.size → listed.getD k false = decide (k ∈ pre)) → suf.length ≤ fuel →
      wpAny P .any ops Q fuel listed a w → wpOps P ops Q suf a w := by
  intro suf
  induction suf with
  | nil =>
    intro pre fuel listed a w hp hsz hli hf h
    have hr : Region.ready .any ops listed = [] := by
      refine List.eq_nil_iff_forall_not_mem.2 fun i hi => ?_
      simp only [Region.ready, List.mem_filter, List.mem_range, Bool.and_eq_true, Bool.not_eq_true'] at hi
      have h1 := hli i hi.1
      have h2 : i ∈ pre := by rw [List.append_nil] at hp; rw [hp]; exact (hl.all i).2 hi.1
      have h3 : listed.getD i true = true := by
        have : i < listed.size := by have := hi.1; omega
        simp only [decide_eq_true h2] at h1
        simpa [Array.getD_eq_getD_getElem?, this] using h1
      rw [h3] at hi
      cases hi.2.1
    cases fuel with
    | zero => exact h.2
    | succ f => exact h.1 hr
  | cons i suf ih =>
    intro pre fuel listed a w hp hsz hli hf h
    have hnd := hl.nd
    rw [← hp] at hnd
    have hil : i < ops.size := (hl.all i).1 (by rw [← hp]; simp)
    have hip : i ∉ pre := fun hh => (List.nodup_append.1 hnd).2.2 i hh i List.mem_cons_self rfl
    have hidx : σ.idxOf i = pre.length := by
      rw [← hp, List.idxOf_append, if_neg hip]; simp
    have hrd : i ∈ Region.ready .any ops listed := by
      simp only [Region.ready, List.mem_filter, List.mem_range, Bool.and_eq_true, Bool.not_eq_true']
      refine ⟨hil, ?_, ?_⟩
      · have h1 := hli i hil
        rw [decide_eq_false hip] at h1
        have : i < listed.size := by omega
        simpa [Array.getD_eq_getD_getElem?, this] using h1
      · rw [Array.getElem?_eq_getElem hil]
        simp only [Option.map_some, Option.getD_some]
        refine Array.all_eq_true_iff_forall_mem.2 fun e he => ?_
        cases hb : Region.binds .any e with
        | false => rfl
        | true =>
          have h1 := hl.ord i _ (Array.getElem?_eq_getElem hil) e he hb
          unfold bef at h1
          rw [hidx] at h1
          have hmem : e.on ∈ pre := by
            rw [← hp, List.idxOf_append] at h1
            by_cases hm : e.on ∈ pre
            · exact hm
            · rw [if_neg hm] at h1; omega
          have hlt : e.on < ops.size := (hl.all _).1 (by rw [← hp]; exact List.mem_append_left _ hmem)
          simp only [Bool.not_true, Bool.false_or]
          rw [hli _ hlt, decide_eq_true hmem]
    cases fuel with
    | zero => simp at hf
    | succ f =>
      rw [wpOps_cons]
      refine wpOp_mono (fun a w => ih (pre ++ [i]) f (listed.setIfInBounds i true) a w (by simpa using hp) (by simpa using hsz) (fun k hk => ?_) (by simpa using hf)) (h.2 i hrd)
      rw [getD_set _ _ _ _ (by omega), hli k hk]
      by_cases e : k = i
      · subst e; simp
      · rw [if_neg e]; simp [e]

/-- The operations in another order, some of them bound to come behind others. -/
def reAft (π : List Nat) (ext : List (Nat × Nat)) (i : Nat) (af : Array Edge) : Array Edge := ((af.toList.map fun e : Edge => (⟨π.idxOf e.on, e.ground⟩ : Edge)) ++ ((ext.filter fun p => p.2 == i).map fun p => (⟨π.idxOf p.1, .data⟩ : Edge))).toArray
def reOp (π : List Nat) (ext : List (Nat × Nat)) (i : Nat) (o : Oper) : Oper :=
  ⟨o.dst, o.op, o.type, o.pos, reAft π ext i o.after, o.guard.map fun g => (π.idxOf g.1, g.2)⟩
def permL (ops : List Oper) (π : List Nat) (ext : List (Nat × Nat)) : List Oper := π.map fun i => reOp π ext i (ops[i]?.getD default)
def permOk (n : Nat) (π : List Nat) : Bool := decide (π.length = n) && π.all (fun i => decide (i < n)) && (List.range n).all (fun i => π.contains i) && decide π.Nodup

section
variable {ops : List Oper} {π : List Nat} {ext : List (Nat × Nat)}
theorem permOk_facts {n : Nat} (h : permOk n π = true) : π.length = n ∧ (∀ i, i ∈ π ↔ i < n) ∧ π.Nodup := by
  simp only [permOk, Bool.and_eq_true, decide_eq_true_eq, List.all_eq_true, List.mem_range, List.contains_iff_mem] at h
  obtain ⟨⟨⟨h1, h2⟩, h3⟩, h4⟩ := h
  exact ⟨h1, fun i => ⟨h2 i, h3 i⟩, h4⟩
theorem permL_get {n : Nat} (hn : ops.length = n) (h : permOk n π = true) {i : Nat} {o : Oper} (ho : ops[i]? = some o) : (permL ops π ext)[π.idxOf i]? = some (reOp π ext i o) := by
  obtain ⟨h1, h2, h3⟩ := permOk_facts h
  have hi : i < n := by rw [← hn]; exact (List.getElem?_eq_some_iff.1 ho).1
  have hm := (h2 i).2 hi
  unfold permL
  rw [List.getElem?_map, get_idxOf hm]
  simp [ho]
theorem idx_inj {n : Nat} (h : permOk n π = true) {i j : Nat} (hi : i < n) (he : π.idxOf i = π.idxOf j) : i = j := by
  obtain ⟨h1, h2, h3⟩ := permOk_facts h
  have hm := (h2 i).2 hi
  have e1 := get_idxOf hm
  have hj : j ∈ π := by
    refine List.idxOf_lt_length_iff.1 ?_
    rw [← he]; exact List.idxOf_lt_length_iff.2 hm
  have e2 := get_idxOf hj
  rw [← he, e1] at e2
  injection e2
theorem idxOf_map {n : Nat} (h : permOk n π = true) : ∀ (σ : List Nat), (∀ k, k ∈ σ → k < n) → ∀ {i : Nat}, i < n → (σ.map fun k => π.idxOf k).idxOf (π.idxOf i) = σ.idxOf i
  | [], _, i, _ => rfl
  | k :: σ, hs, i, hi => by
    rw [List.map_cons, idxOf_cons', idxOf_cons', idxOf_map h σ (fun k hk => hs k (List.mem_cons_of_mem _ hk)) hi]
    by_cases e : i = k
    · subst e; simp
    · rw [if_neg e, if_neg fun he => e (idx_inj h hi he)]

theorem Lin.perm {σ : List Nat} (hl : Lin ops.toArray σ) (h : permOk ops.length π = true) (he : ∀ p, p ∈ ext → bef σ p.1 p.2 ∧ p.1 < ops.length) (hb : ∀ (j : Nat) (o : Oper), ops.toArray[j]? = some o → ∀ e, e ∈ o.after → Region.binds .any e = true → e.on < j) :
    Lin (permL ops π ext).toArray (σ.map fun k => π.idxOf k) := by
  obtain ⟨h1, h2, h3⟩ := permOk_facts h
  have hlt : ∀ k, k ∈ σ → k < ops.length := fun k hk => by simpa using (hl.all k).1 hk
  have hsz : (permL ops π ext).toArray.size = ops.length := by simp [permL, h1]
  have hmapnd : ∀ τ : List Nat, (∀ k, k ∈ τ → k < ops.length) → τ.Nodup → (τ.map fun k => π.idxOf k).Nodup := by
    intro τ
    induction τ with
    | nil => intro _ _; simp
    | cons k τ ih =>
      intro hk hnd
      obtain ⟨hk1, hk2⟩ := List.nodup_cons.1 hnd
      rw [List.map_cons]
      refine List.nodup_cons.2 ⟨fun hm => ?_, ih (fun k hk' => hk k (List.mem_cons_of_mem _ hk')) hk2⟩
      obtain ⟨k', hk', e⟩ := List.mem_map.1 hm
      have := idx_inj h (hk k' (List.mem_cons_of_mem _ hk')) e
      subst this; exact hk1 hk'
  refine ⟨hmapnd σ hlt hl.nd, fun i => ?_, fun j o hj e hee hbe => ?_⟩
  · rw [hsz, List.mem_map]
    constructor
    · rintro ⟨k, hk, rfl⟩
      rw [← h1]; exact List.idxOf_lt_length_iff.2 ((h2 k).2 (hlt k hk))
    · intro hi
      have hi' : i < π.length := by omega
      refine ⟨π[i], (hl.all _).2 (by simpa using (h2 _).1 (List.getElem_mem hi')), h3.idxOf_getElem i hi'⟩
  · have hj' : (permL ops π ext)[j]? = some o := by simpa using hj
    unfold permL at hj'
    rw [List.getElem?_map, Option.map_eq_some_iff] at hj'
    obtain ⟨i, hi, rfl⟩ := hj'
    have hil : i < ops.length := (h2 i).1 (List.mem_of_getElem? hi)
    have hji : π.idxOf i = j := by
      obtain ⟨hjl, e⟩ := List.getElem?_eq_some_iff.1 hi
      rw [← e]; exact h3.idxOf_getElem j hjl
    have ho : ops[i]? = some (ops[i]'hil) := List.getElem?_eq_getElem hil
    rw [ho] at hee
    simp only [Option.getD_some, reOp, reAft, List.mem_toArray, List.mem_append, List.mem_map, List.mem_filter] at hee
    unfold bef
    rw [← hji, idxOf_map h σ hlt hil]
    rcases hee with ⟨e0, he0, rfl⟩ | ⟨p, ⟨hp, hpi⟩, rfl⟩
    · have hb0 : Region.binds .any e0 = true := by simpa [Region.binds] using hbe
      have hlt0 := hb i _ (by rw [List.getElem?_toArray]; exact ho) e0 (by simpa using he0) hb0
      simp only
      rw [idxOf_map h σ hlt (by omega)]
      exact hl.ord i _ (by rw [List.getElem?_toArray]; exact ho) e0 (by simpa using he0) hb0
    · have hpe : p.2 = i := by simpa using hpi
      simp only
      rw [idxOf_map h σ hlt (he p hp).2, ← hpe]
      exact (he p hp).1

theorem wpOp_perm {P : Program} {Q : Exit → Act → World → Prop} (h : permOk ops.length π = true) {i : Nat} (hi : i < ops.length) {K : Act → World → Prop} {a : Act} {w : World}
    (hw : wpOp P (permL ops π ext).toArray Q (π.idxOf i) K a w) : wpOp P ops.toArray Q i K a w := by
  obtain ⟨h1, h2, h3⟩ := permOk_facts h
  have ho : ops[i]? = some (ops[i]'hi) := List.getElem?_eq_getElem hi
  generalize ops[i]'hi = o at ho
  have hy : ∀ g, yielded (permL ops π ext).toArray a.tmps (π.idxOf g) = yielded ops.toArray a.tmps g := by
    intro g
    unfold yielded
    rcases Nat.lt_or_ge g ops.length with hg | hg
    · have hg' : ops[g]? = some (ops[g]'hg) := List.getElem?_eq_getElem hg
      simp only [List.getElem?_toArray, permL_get rfl h hg', hg', reOp, Option.bind_some]
    · have e1 : ops[g]? = none := List.getElem?_eq_none hg
      have e2 : (permL ops π ext)[π.idxOf g]? = none := List.getElem?_eq_none (by
        have : g ∉ π := fun hm => by have := (h2 g).1 hm; omega
        rw [List.idxOf_eq_length this]; simp [permL])
      simp only [List.getElem?_toArray, e1, e2]
  have hwant : Region.wanted (reOp π ext i o) (yielded (permL ops π ext).toArray a.tmps) = Region.wanted o (yielded ops.toArray a.tmps) := by
    simp only [Region.wanted, reOp]
    cases o.guard with
    | none => rfl
    | some g => simp only [Option.map_some, hy]
  unfold wpOp at hw ⊢
  simp only [List.getElem?_toArray, permL_get rfl h ho, hwant] at hw
  simp only [List.getElem?_toArray, ho]
  exact hw

theorem wpOps_perm {P : Program} {Q : Exit → Act → World → Prop} (h : permOk ops.length π = true) : ∀ (σ : List Nat), (∀ k, k ∈ σ → k < ops.length) → ∀ (a : Act) (w : World), wpOps P (permL ops π ext).toArray Q (σ.map fun k => π.idxOf k) a w → wpOps P ops.toArray Q σ a w
  | [], _, a, w, hw => hw
  | i :: σ, hs, a, w, hw => by
    rw [List.map_cons, wpOps_cons] at hw
    rw [wpOps_cons]
    exact wpOp_perm h (hs i List.mem_cons_self) (wpOp_mono (fun a w => wpOps_perm h σ (fun k hk => hs k (List.mem_cons_of_mem _ hk)) a w) hw)
end

section
variable {P : Program} {nt : Nat} {tm : Tm} {mem : AMem}
/-- All orders in which, of some pairs, the one comes ahead of the other. -/
def DX (P : Program) (nt : Nat) (ops : List Oper) (ext : List (Nat × Nat)) (tm : Tm) (mem : AMem) (K : Tm → AMem → Prop) : Prop :=
  ∀ ρ a w, Rep ρ nt tm mem a w → ∀ QQ : Exit → Act → World → Prop, (∀ ρ' tm' mem' a' w', Rep ρ' nt tm' mem' a' w' → Step mem ρ w mem' ρ' w' → a'.defers = a.defers → K tm' mem' → QQ .normal a' w') →
    ∀ σ, Lin ops.toArray σ → (∀ p, p ∈ ext → bef σ p.1 p.2) → wpOps P ops.toArray QQ σ a w

theorem AW.drawX {id : Nat} {l : List Oper} {Q : Exit → Tm → AMem → Prop} (hf : P.follows .mixedOrders = true) (hb : backB l = true) (h : DX P nt l [] tm mem (Q .normal)) : AW P nt (.region id l.toArray true) tm mem Q := by
  intro ρ a w hr
  refine wp_region_draw fun t => ?_
  simp only [Region.schedule, hf, Bool.true_or, if_true]
  exact h ρ a _ hr.drew _ (fun ρ' tm' mem' a' w' r s d k => ⟨ρ', tm', mem', r, ⟨s.os, s.tape, s.output, s.size, s.len, s.ext, s.kind, s.ro, s.frame, s.fresh⟩, d, k⟩) _ (lin_of (backB_ok hb) t) (fun p hp => by cases hp)

theorem DX.split {l : List Oper} {ext : List (Nat × Nat)} {K : Tm → AMem → Prop} (i j : Nat) (hn : i ≠ j ∧ i < l.length ∧ j < l.length) (h1 : DX P nt l ((i, j) :: ext) tm mem K) (h2 : DX P nt l ((j, i) :: ext) tm mem K) : DX P nt l ext tm mem K := by
  intro ρ a w hr QQ hQ σ hl he
  obtain ⟨hne, hi, hj⟩ := hn
  have hmi : i ∈ σ := (hl.all i).2 (by simpa using hi)
  have hmj : j ∈ σ := (hl.all j).2 (by simpa using hj)
  have hneq : σ.idxOf i ≠ σ.idxOf j := fun e => by
    have e1 := get_idxOf hmi
    have e2 := get_idxOf hmj
    rw [e, e2] at e1
    injection e1 with e1
    exact hne e1.symm
  rcases Nat.lt_or_ge (σ.idxOf i) (σ.idxOf j) with h | h
  · exact h1 ρ a w hr QQ hQ σ hl fun p hp => by
      rcases List.mem_cons.1 hp with rfl | hp
      · exact h
      · exact he p hp
  · exact h2 ρ a w hr QQ hQ σ hl fun p hp => by
      rcases List.mem_cons.1 hp with rfl | hp
      · unfold bef; simp only; omega
      · exact he p hp

def dxOk (nt : Nat) (l : List Oper) (π : List Nat) (ext : List (Nat × Nat)) (l' : List Oper) (pl : List Plan) : Bool :=
  permOk l.length π && backB l && ext.all (fun p => decide (p.1 < l.length)) && decide (pl.length = l'.length) && planOk nt (l'.zip pl)

theorem DX.run {l l' : List Oper} {ext : List (Nat × Nat)} {K : Tm → AMem → Prop} (π : List Nat) (pl : List Plan) (hl' : permL l π ext = l') (hok : dxOk nt l π ext l' pl = true)
    (h : AOpsD P l'.toArray (l'.zip pl) tm mem [mem] [] K) : DX P nt l ext tm mem K := by
  intro ρ a w hr QQ hQ σ hl he
  subst hl'
  simp only [dxOk, Bool.and_eq_true, List.all_eq_true, decide_eq_true_eq] at hok
  obtain ⟨⟨⟨⟨h1, h2⟩, h3⟩, h4⟩, h5⟩ := hok
  have hlt : ∀ k, k ∈ σ → k < l.length := fun k hk => by simpa using (hl.all k).1 hk
  refine wpOps_perm (ext := ext) h1 σ hlt a w ?_
  have hlin := hl.perm h1 (fun p hp => ⟨he p hp, h3 p hp⟩) (backB_ok h2)
  have he' : (permL l π ext).toArray = opsOf ((permL l π ext).zip pl) := by
    unfold opsOf
    rw [show (fun x : Oper × Plan => x.1) = Prod.fst from rfl, List.map_fst_zip (by omega)]
  have hs := aopsD_sound (P := P) h5 (by rw [he'] at h; exact h) hr (Q := QQ) hQ
  rw [← he'] at hs
  refine wpAny_lin hlin (σ.map fun k => π.idxOf k) [] _ _ a w rfl (by simp) (fun k hk => ?_) ?_ hs
  · simp only [Array.getD_eq_getD_getElem?, Array.getElem?_replicate]
    rw [if_pos hk]; rfl
  · have hperm : ∀ (n : Nat) (τ : List Nat), τ.Nodup → (∀ k, k ∈ τ → k < n) → τ.length ≤ n := by
      intro n
      induction n with
      | zero => intro τ _ hk; cases τ with
        | nil => simp
        | cons x τ => exact absurd (hk x List.mem_cons_self) (by omega)
      | succ n ih =>
        intro τ hnd hk
        have h6 : (τ.erase n).length ≤ n := ih _ (hnd.erase n) fun k hk' => by
          have hkm := List.mem_of_mem_erase hk'
          have := hk k hkm
          have : k ≠ n := fun e => by subst e; exact (List.Nodup.not_mem_erase hnd) hk'
          omega
        have := List.length_erase (a := n) (l := τ)
        split at this <;> omega
    exact hperm _ _ hlin.nd fun k hk => (hlin.all k).1 hk
end
end Go.Eng

/-
  ENGINE, PART R: a scope in which the run jumps back to one label.
-/
set_option linter.unusedVariables false
set_option linter.unusedSimpArgs false
namespace Go.Eng
open Go

section
variable {P : Program} {nt : Nat} {tm : Tm} {mem : AMem} {Q : Exit → Tm → AMem → Prop}
end
end Go.Eng

/-
  ENGINE, PART S: the machine of part O, with scopes in which the run jumps back to a label.
-/
set_option linter.unusedVariables false
set_option linter.unusedSimpArgs false
namespace Go.Eng
open Go

section
variable (P : Program) (call : Caller) (pls : Nat → List Plan) (nt L : Nat) (jump : Code → Tm → AMem → Option (Exit × Tm × AMem))
end

section
variable {P : Program} {call : Caller} {pls : Nat → List Plan} {nt L : Nat}
end
end Go.Eng

/-
  ENGINE, PART T: a row of our own is cut short (what lies behind is spare).
-/
set_option linter.unusedVariables false
namespace Go.Eng
open Go
variable {P : Program} {nt : Nat} {tm : Tm} {mem : AMem}
theorem All2.take_left {α β : Type} {R : α → β → Prop} : ∀ {xa : List α} {bs : List β} (k : Nat), All2 R xa bs → ∃ xs sp, bs = xs ++ sp ∧ All2 R (xa.take k) xs
  | xa, bs, 0, _ => ⟨[], bs, rfl, by rw [List.take_zero]; trivial⟩
  | [], [], _ + 1, _ => ⟨[], [], rfl, trivial⟩
  | a :: xa, b :: bs, k + 1, h => by
    obtain ⟨xs, sp, e, h2⟩ := All2.take_left k h.2
    exact ⟨b :: xs, sp, by rw [e]; rfl, h.1, h2⟩
end Go.Eng

/-
  ENGINE, PART U: a row held against nil, of which nothing more is known; a nil row taken as one of our own, of any version.
-/
set_option linter.unusedVariables false
namespace Go.Eng
open Go
variable {P : Program}
variable {nt : Nat} {tm : Tm} {mem : AMem}
end Go.Eng

/-
  ENGINE, PART V: from a contract to a row that bears a condition of its own and lists variables with what they hold.
-/
set_option linter.unusedVariables false
namespace Go.Eng
open Go
variable {H : Type} {enc : TypeId × Value → H}
end Go.Eng

/-
  ENGINE, PART W: what a row of our own holds is handed on to another one (which bears a new version then); results beside a memory that was written.
-/
set_option linter.unusedVariables false
namespace Go.Eng
open Go
variable {P : Program} {nt : Nat} {tm : Tm} {mem : AMem}
theorem RetP.dropM {m1 : AMem} {L : Nat} {rs : List ResultVar} {ret : AV} {extra : AMem} {ex : Exit} (hl : m1.length = L) (hex : ex = .normal ∨ ex = .ret) (hres : resA P rs tm (m1 ++ extra) = some ret) (hb : ret.below L = true) (hw : MWf L m1) :
    RetP P rs L ret m1 ex tm (m1 ++ extra) := by
  subst hl; exact RetP.drop hex hres hb hw
theorem RetP.dropM0 {m1 : AMem} {L : Nat} {rs : List ResultVar} {ret : AV} {ex : Exit} (hl : m1.length = L) (hex : ex = .normal ∨ ex = .ret) (hres : resA P rs tm m1 = some ret) (hb : ret.below L = true) (hw : MWf L m1) :
    RetP P rs L ret m1 ex tm m1 := by
  subst hl; exact RetP.drop0 hex hres hb hw
theorem AW.moveP {c : Code} {Q : Exit → Tm → AMem → Prop} (old new d n : Nat) {b e : Blk} (hb : mem[old]? = some b) (hbk : b.kind = .grow) (he : mem[new]? = some e) (hek : e.kind = .grow) (hne : old ≠ new) (hd : Tm.get tm d = .one (.sl new e.ver 0 n))
    (h : ∀ ρ2 a w, ρ2 old (b.ver + 1) = ρ2 new e.ver → Rep ρ2 nt ((d, .one (.sl old (b.ver + 1) 0 n)) :: tm) ((mem.set old ⟨.grow, e.ty, b.ver + 1, e.esz, e.cells⟩).set new ⟨.grow, e.ty, e.ver + 1, e.esz, []⟩) a w →
      c.wp P (fun ex a' w' => ∃ ρ' tm' mem', Rep ρ' nt tm' mem' a' w' ∧ Step ((mem.set old ⟨.grow, e.ty, b.ver + 1, e.esz, e.cells⟩).set new ⟨.grow, e.ty, e.ver + 1, e.esz, []⟩) ρ2 w mem' ρ' w' ∧ a'.defers = a.defers ∧ Q ex tm' mem') a w) : AW P nt c tm mem Q := by
  intro ρ a w hr
  have hol := (List.getElem?_eq_some_iff.1 hb).1
  have hnl := (List.getElem?_eq_some_iff.1 he).1
  obtain ⟨x0, hx0⟩ : ∃ x, ρ new e.ver = some x := by
    have h1 := hr.tm d
    rw [hd] at h1
    obtain ⟨A, c0, B, cc, h2, _⟩ := h1
    exact ⟨_, h2⟩
  have hle1 : ρ.le (ρ.set old (b.ver + 1) x0) := Env.le_set (hr.mem.domv old b _ hb (by omega))
  have hle2 : (ρ.set old (b.ver + 1) x0).le ((ρ.set old (b.ver + 1) x0).set new (e.ver + 1) (none, 0)) := Env.le_set (by
    rw [Env.set_other ρ _ (fun hc => hne hc.1.symm)]; exact hr.mem.domv new e _ he (by omega))
  have hle : ρ.le ((ρ.set old (b.ver + 1) x0).set new (e.ver + 1) (none, 0)) := fun r v x hx => hle2 r v x (hle1 r v x hx)
  generalize hρ : (ρ.set old (b.ver + 1) x0).set new (e.ver + 1) (none, 0) = ρ2 at *
  have eo : ρ2 old (b.ver + 1) = some x0 := by rw [← hρ, Env.set_other _ _ (fun hc => hne hc.1), Env.set_same]
  have en : ρ2 new (e.ver + 1) = some (none, 0) := by rw [← hρ, Env.set_same]
  have eq : ∀ r v, r ≠ old → r ≠ new → ρ2 r v = ρ r v := fun r v h1 h2 => by rw [← hρ, Env.set_other _ _ (fun hc => h2 hc.1), Env.set_other _ _ (fun hc => h1 hc.1)]
  have hgt : ∀ {s : Nat} {q : Blk}, ((mem.set old ⟨.grow, e.ty, b.ver + 1, e.esz, e.cells⟩).set new ⟨.grow, e.ty, e.ver + 1, e.esz, []⟩)[s]? = some q →
      (s ≠ old ∧ s ≠ new ∧ mem[s]? = some q) ∨ (s = old ∧ q = ⟨.grow, e.ty, b.ver + 1, e.esz, e.cells⟩) ∨ (s = new ∧ q = ⟨.grow, e.ty, e.ver + 1, e.esz, []⟩) := by
    intro s q hq
    by_cases h1 : s = new
    · subst h1; rw [List.getElem?_set_self (by simpa using hnl)] at hq; injection hq with hq; exact .inr (.inr ⟨rfl, hq.symm⟩)
    · rw [List.getElem?_set_ne (fun h => h1 h.symm)] at hq
      by_cases h2 : s = old
      · subst h2; rw [List.getElem?_set_self hol] at hq; injection hq with hq; exact .inr (.inl ⟨rfl, hq.symm⟩)
      · rw [List.getElem?_set_ne (fun h => h2 h.symm)] at hq; exact .inl ⟨h2, h1, hq⟩
  have hblk : BlkR ρ2 w old ⟨.grow, e.ty, b.ver + 1, e.esz, e.cells⟩ := by
    have h1 := hr.mem.blk new e he
    obtain ⟨kind, ty, ver, esz, cells⟩ := e
    simp only at hek; subst hek
    rcases h1 with ⟨q1, q2⟩ | ⟨q, c1, cap, xs, sp, q1, q2, q3, q4, q5, q6⟩
    · refine .inl ⟨q1, ?_⟩
      rw [eo, ← hx0]; exact q2
    · refine .inr ⟨q, c1, cap, xs, sp, ?_, q2, q3, q4, q5, q6.mono fun _ _ => VC.mono hle⟩
      rw [eo, ← hx0]; exact q1
  have hsrc : ∀ {s : Nat} {q : Blk} {x : Addr} {k : Nat}, ((mem.set old ⟨.grow, e.ty, b.ver + 1, e.esz, e.cells⟩).set new ⟨.grow, e.ty, e.ver + 1, e.esz, []⟩)[s]? = some q → ρ2 s q.ver = some (some x, k) →
      ∃ s0 q0, mem[s0]? = some q0 ∧ ρ s0 q0.ver = some (some x, k) ∧ q0.kind = q.kind ∧ (s0 = s ∧ q0 = q ∨ s = old ∧ s0 = new) ∧ s ≠ new := by
    intro s q x k hq hx
    rcases hgt hq with ⟨h1, h2, h3⟩ | ⟨rfl, rfl⟩ | ⟨rfl, rfl⟩
    · rw [eq s _ h1 h2] at hx; exact ⟨s, q, h3, hx, rfl, .inl ⟨rfl, rfl⟩, h2⟩
    · simp only at hx; rw [eo, ← hx0] at hx; exact ⟨new, e, he, hx, hek, .inr ⟨rfl, rfl⟩, hne⟩
    · simp only at hx; rw [en] at hx; injection hx with hx; injection hx with hx _; cases hx
  have hm : RepM ρ2 ((mem.set old ⟨.grow, e.ty, b.ver + 1, e.esz, e.cells⟩).set new ⟨.grow, e.ty, e.ver + 1, e.esz, []⟩) w := by
    refine ⟨fun s q hq => ?_, fun s v hs => ?_, fun s q v hq hv => ?_, fun s t q u hq hu hst hqk huk x y i j hx hy => ?_⟩
    · rcases hgt hq with ⟨_, _, h3⟩ | ⟨rfl, rfl⟩ | ⟨rfl, rfl⟩
      · exact (hr.mem.blk s q h3).mono hle
      · exact hblk
      · exact .inl ⟨rfl, en⟩
    · simp only [List.length_set] at hs
      rw [eq s v (by omega) (by omega)]; exact hr.mem.dom s v hs
    · rcases hgt hq with ⟨h1, h2, h3⟩ | ⟨rfl, rfl⟩ | ⟨rfl, rfl⟩
      · rw [eq s v h1 h2]; exact hr.mem.domv s q v h3 hv
      · simp only at hv
        rw [← hρ, Env.set_other _ _ (fun hc => hne hc.1), Env.set_other _ _ (fun hc => by omega)]
        exact hr.mem.domv _ b v hb (by omega)
      · simp only at hv
        rw [← hρ, Env.set_other _ _ (fun hc => by omega), Env.set_other _ _ (fun hc => hne hc.1.symm)]
        exact hr.mem.domv _ e v he (by omega)
    · obtain ⟨s0, q0, g1, g2, g3, g4, g5⟩ := hsrc hq hx
      obtain ⟨t0, u0, f1, f2, f3, f4, f5⟩ := hsrc hu hy
      refine hr.mem.sep s0 t0 q0 u0 g1 f1 ?_ (by rw [g3]; exact hqk) (fun hro => ?_) x y i j g2 f2
      · rcases g4 with ⟨rfl, _⟩ | ⟨rfl, rfl⟩ <;> rcases f4 with ⟨rfl, _⟩ | ⟨rfl, rfl⟩
        · exact hst
        · exact g5
        · exact fun h => f5 h.symm
        · exact absurd rfl hst
      · rcases f4 with ⟨_, rfl⟩ | ⟨_, rfl⟩
        · exact huk hro
        · rw [he] at f1; injection f1 with f1; subst f1; rw [hek] at hro; cases hro
  refine wp_mono (h ρ2 a w (by rw [eo]; exact (hle new e.ver x0 hx0).symm) ⟨hr.size, fun i => ?_, hm⟩) ?_
  · rw [Tm.get_put]
    split
    · rename_i hi
      subst hi
      have h1 := hr.tm i
      rw [hd] at h1
      obtain ⟨A, c0, B, cc, h2, h3, h4, h5, h6⟩ := h1
      exact ⟨A, c0, B, cc, by rw [eo, ← hx0]; exact h2, h3, h4, h5, h6⟩
    · exact (hr.tm i).mono hle
  · rintro ee a' w' ⟨ρ3, tm2, mem2, hr2, hs2, hdd, hq⟩
    refine ⟨ρ3, tm2, mem2, hr2, ?_, hdd, hq⟩
    refine ⟨hs2.os, hs2.tape, hs2.output, hs2.size, by have := hs2.len; simpa using this, fun s hs v x hx => hs2.ext s (by simpa using hs) v x (hle s v x hx), fun s q q' h1 h2 => ?_, fun s q' h1 h2 => ?_, fun n1 hn hn2 => ?_, fun s q' x i h1 h2 h3 => ?_⟩
    · by_cases e1 : s = new
      · subst e1
        rw [he] at h1; injection h1 with h1; subst h1
        rw [hek]; exact hs2.kind s ⟨.grow, e.ty, e.ver + 1, e.esz, []⟩ q' (List.getElem?_set_self (by simpa using hnl)) h2
      · by_cases e2 : s = old
        · subst e2
          rw [hb] at h1; injection h1 with h1; subst h1
          rw [hbk]; exact hs2.kind s ⟨.grow, e.ty, b.ver + 1, e.esz, e.cells⟩ q' (by rw [List.getElem?_set_ne (fun h => e1 h.symm)]; exact List.getElem?_set_self hol) h2
        · exact hs2.kind s q q' (by rw [List.getElem?_set_ne (fun h => e1 h.symm), List.getElem?_set_ne (fun h => e2 h.symm)]; exact h1) h2
    · have := hs2.ro s q' h1 h2
      rcases hgt this with ⟨_, _, h3⟩ | ⟨_, rfl⟩ | ⟨_, rfl⟩
      · exact h3
      · cases h2
      · cases h2
    · refine hs2.frame n1 hn fun s q x i h1 h2 h3 => ?_
      obtain ⟨s0, q0, g1, g2, g3, _, _⟩ := hsrc h1 h3
      exact hn2 s0 q0 x i g1 (by rw [g3]; exact h2) g2
    · rcases hs2.fresh s q' x i h1 h2 h3 with h | ⟨t, q, y, l, g1, g2, g3, g4⟩
      · exact .inl h
      · obtain ⟨s0, q0, f1, f2, f3, _, _⟩ := hsrc g1 g3
        exact .inr ⟨s0, q0, y, l, f1, by rw [f3]; exact g2, f2, g4⟩
theorem BlkR.recell {ρ : Env} {w : World} {r : Nat} {b : Blk} (hb : BlkR ρ w r b) (hk : b.kind ≠ .ro) {j : Nat} {c0 c : CV} (hj : b.cells[j]? = some c0) (hc : ∀ v, VC ρ c0 v → VC ρ c v) : BlkR ρ w r { b with cells := b.cells.set j c } := by
  obtain ⟨kind, ty, ver, esz, cells⟩ := b
  cases kind with
  | fix =>
    obtain ⟨n, cs, k, h1, h2, h3, hkk⟩ := hb
    obtain ⟨v, hv, hr⟩ := h3.get hj
    exact ⟨n, cs, k, h1, h2, h3.set_left hv (hc v hr), hkk⟩
  | grow =>
    rcases hb with ⟨h1, h2⟩ | ⟨n, cs, cap, xs, sp, h1, h2, h3, hcm, h4, h5⟩
    · simp only at h1; subst h1; simp at hj
    · obtain ⟨v, hv, hr⟩ := h5.get hj
      exact .inr ⟨n, cs, cap, xs, sp, h1, h2, h3, hcm, h4, h5.set_left hv (hc v hr)⟩
  | ro => exact absurd rfl hk
  | map ka va clock es => obtain ⟨n, o, k, _, _, _, h⟩ := hb; simp only at h; subst h; simp at hj
  | iter rm since seen last => obtain ⟨n, N, k, k', _, _, _, h⟩ := hb; simp only at h; subst h; simp at hj
theorem RepM.recell {ρ : Env} {w : World} (h : RepM ρ mem w) {r j : Nat} {b : Blk} {c0 c : CV} (hb : mem[r]? = some b) (hk : b.kind ≠ .ro) (hj : b.cells[j]? = some c0) (hc : ∀ v, VC ρ c0 v → VC ρ c v) :
    RepM ρ (mem.set r { b with cells := b.cells.set j c }) w ∧ Step mem ρ w (mem.set r { b with cells := b.cells.set j c }) ρ w := by
  have hrl := (List.getElem?_eq_some_iff.1 hb).1
  have hold : ∀ {s : Nat} {d : Blk}, (mem.set r { b with cells := b.cells.set j c })[s]? = some d → ∃ d0, mem[s]? = some d0 ∧ d0.kind = d.kind ∧ d0.ver = d.ver ∧ (d.kind = .ro → d0 = d) ∧ BlkR ρ w s d := by
    intro s d hd
    by_cases hs : s = r
    · subst hs; rw [List.getElem?_set_self hrl] at hd; injection hd with hd; subst hd
      exact ⟨b, hb, rfl, rfl, fun h => absurd h hk, (h.blk s b hb).recell hk hj hc⟩
    · rw [List.getElem?_set_ne (fun e => hs e.symm)] at hd
      exact ⟨d, hd, rfl, rfl, fun _ => rfl, h.blk s d hd⟩
  refine ⟨⟨fun s d hd => ?_, fun s v hs => h.dom s v (by simpa using hs), fun s d v hd hv => ?_, fun s t d e hd he hne hkd hke x y i k hx hy => ?_⟩,
    ⟨rfl, rfl, rfl, Nat.le_refl _, by simp, fun _ _ _ _ h => h, fun s d d' h1 h2 => ?_, fun s d h1 h2 => ?_, fun _ _ _ => rfl, fun s d x k h1 h2 h3 => ?_⟩⟩
  · obtain ⟨_, _, _, _, _, h5⟩ := hold hd; exact h5
  · obtain ⟨d0, h1, _, h3, _⟩ := hold hd; exact h.domv s d0 v h1 (by rw [h3]; exact hv)
  · obtain ⟨d0, h1, h2, h3, _⟩ := hold hd
    obtain ⟨e0, f1, f2, f3, f4, _⟩ := hold he
    exact h.sep s t d0 e0 h1 f1 hne (by rw [h2]; exact hkd) (fun hro => by rw [f4 (by rw [← f2]; exact hro)]; exact hke (by rw [← f2]; exact hro)) x y i k (by rw [h3]; exact hx) (by rw [f3]; exact hy)
  · obtain ⟨d0, h3, h4, _⟩ := hold h2; rw [h1] at h3; injection h3 with h3; rw [h3, h4]
  · obtain ⟨d0, h3, _, _, h5, _⟩ := hold h1; rw [← h5 h2]; exact h3
  · obtain ⟨d0, f1, f2, f3, _⟩ := hold h1; exact .inr ⟨s, d0, x, k, f1, by rw [f2]; exact h2, by rw [f3]; exact h3, rfl⟩
/-- The same where a cell of a block of our own leads to the row, too. -/
theorem AW.moveC {c : Code} {Q : Exit → Tm → AMem → Prop} (old new d n rp j : Nat) {b e p : Blk} (hb : mem[old]? = some b) (hbk : b.kind = .grow) (he : mem[new]? = some e) (hek : e.kind = .grow) (hne : old ≠ new) (hd : Tm.get tm d = .one (.sl new e.ver 0 n))
    (hp : mem[rp]? = some p) (hpk : p.kind ≠ .ro) (hpo : rp ≠ old) (hpn : rp ≠ new) (hpj : p.cells[j]? = some (.sl new e.ver 0 n))
    (h : AW P nt c ((d, .one (.sl old (b.ver + 1) 0 n)) :: tm) (((mem.set old ⟨.grow, e.ty, b.ver + 1, e.esz, e.cells⟩).set new ⟨.grow, e.ty, e.ver + 1, e.esz, []⟩).set rp { p with cells := p.cells.set j (.sl old (b.ver + 1) 0 n) }) Q) : AW P nt c tm mem Q :=
  AW.moveP old new d n hb hbk he hek hne hd fun ρ2 a w heq hr => by
    obtain ⟨g1, g2⟩ := hr.mem.recell (r := rp) (j := j) (c := .sl old (b.ver + 1) 0 n) (b := p) (by rw [List.getElem?_set_ne (fun e => hpn e.symm), List.getElem?_set_ne (fun e => hpo e.symm)]; exact hp) hpk hpj (fun v hv => by
      obtain ⟨A, c0, B, cc, h2, h3⟩ := hv
      exact ⟨A, c0, B, cc, by rw [heq]; exact h2, h3⟩)
    refine wp_mono (h ρ2 a w ⟨hr.size, hr.tm, g1⟩) ?_
    rintro ee a' w' ⟨ρ3, tm2, mem2, hr2, hs2, hdd, hq⟩
    exact ⟨ρ3, tm2, mem2, hr2, g2.trans hs2, hdd, hq⟩
end Go.Eng

set_option linter.unusedSimpArgs false
set_option linter.unusedVariables false
set_option maxRecDepth 100000
set_option maxHeartbeats 4000000
namespace Go.Proofs.Ytdkfbbjpblfclaa
open Go Go.Eng

theorem wi {x : Int} (h : -9223372036854775808 ≤ x ∧ x ≤ 9223372036854775807) : IntKind.i64.wrap x = x := by rw [IntKind.wrap_i64]; omega
theorem w32 (x : Int) : IntKind.u32.wrap x = x % 4294967296 := by simp [IntKind.wrap, IntKind.signed, IntKind.bits]
theorem w8 (x : Int) : IntKind.u8.wrap x = x % 256 := by simp [IntKind.wrap, IntKind.signed, IntKind.bits]
/-- Bytes; words; a number's bits. -/
def u8l (bs : List Int) : List CV := bs.map (CV.int .u8)
theorem u8l_len (bs : List Int) : (u8l bs).length = bs.length := by simp [u8l]
theorem u8l_app (a b : List Int) : u8l a ++ u8l b = u8l (a ++ b) := by simp [u8l]
theorem u8l_vals (bs : List Int) : (u8l bs).all CV.isVal = true := by
  simp only [u8l, List.all_map, List.all_eq_true]; intro x _; rfl
theorem u8l_below (L : Nat) (bs : List Int) : (u8l bs).all (CV.below L) = true := by
  simp only [u8l, List.all_map, List.all_eq_true]; intro x _; rfl
def byB (bs : List Int) (i : Nat) : Int := bs.getD i 0
theorem u8l_get {bs : List Int} {i : Nat} (h : i < bs.length) : (u8l bs)[i]? = some (.int .u8 (byB bs i)) := by
  simp only [u8l, List.getElem?_map, byB, List.getD_eq_getElem?_getD, List.getElem?_eq_getElem h]; rfl
theorem u8l_take (bs : List Int) (n : Nat) : (u8l bs).take n = u8l (bs.take n) := by simp [u8l]
theorem u8l_drop (bs : List Int) (n : Nat) : (u8l bs).drop n = u8l (bs.drop n) := by simp [u8l]
def ul (xs : List Int) : List CV := xs.map (CV.int .u32)
theorem ul_len (xs : List Int) : (ul xs).length = xs.length := by simp [ul]
theorem ul_get {xs : List Int} {i : Nat} (h : i < xs.length) : (ul xs)[i]? = some (.int .u32 (xs.getD i 0)) := by
  simp only [ul, List.getElem?_map, List.getD_eq_getElem?_getD, List.getElem?_eq_getElem h]; rfl
theorem ul_set (xs : List Int) (i : Nat) (x : Int) : (ul xs).set i (.int .u32 x) = ul (xs.set i x) := by simp [ul, List.map_set]
theorem ul_vals (xs : List Int) : (ul xs).all CV.isVal = true := by
  simp only [ul, List.all_map, List.all_eq_true]; intro x _; rfl
def R32 (x : Int) : Prop := 0 ≤ x ∧ x ≤ 4294967295
theorem or_comm (x y : Int) : bits .or .u32 x y = bits .or .u32 y x := by unfold bits; simp only; rw [BitVec.or_comm]
theorem ofInt32 {x : Int} (h : R32 x) : (BitVec.ofInt 32 x).toNat = x.toNat := by
  have := h.1; have := h.2
  rw [BitVec.toNat_ofInt]; omega
theorem or_add {x y : Int} (k : Nat) (q : Int) (hx : R32 x) (hy : 0 ≤ y) (e : x = 2 ^ k * q) (hq : 0 ≤ q) (hlt : y < 2 ^ k) (hk : k ≤ 32) : bits .or .u32 x y = x + y := by
  have h2 : (2 : Int) ^ k ≤ 4294967296 := by
    have := Nat.pow_le_pow_right (n := 2) (by omega) hk
    have e2 : ((2 ^ k : Nat) : Int) = (2 : Int) ^ k := by simp
    rw [← e2]; omega
  have hy' : R32 y := ⟨hy, by omega⟩
  have hn : x.toNat ||| y.toNat = x.toNat + y.toNat := by
    have ex : x.toNat = 2 ^ k * q.toNat := by
      have e2 : ((2 ^ k * q.toNat : Nat) : Int) = x := by rw [e]; simp [Int.natCast_mul, Int.toNat_of_nonneg hq]
      omega
    have ylt : y.toNat < 2 ^ k := by
      have e2 : ((2 ^ k : Nat) : Int) = (2 : Int) ^ k := by simp
      omega
    rw [ex, Nat.two_pow_add_eq_or_of_lt ylt]
  have hor : (BitVec.ofInt 32 x ||| BitVec.ofInt 32 y).toNat = x.toNat + y.toNat := by
    rw [BitVec.toNat_or, ofInt32 hx, ofInt32 hy', hn]
  have hlt2 : x.toNat + y.toNat < 2 ^ 32 := by rw [← hor]; exact (BitVec.ofInt 32 x ||| BitVec.ofInt 32 y).isLt
  show IntKind.u32.wrap ((BitVec.ofInt 32 x ||| BitVec.ofInt 32 y).toNat : Int) = x + y
  rw [hor, w32]; have := hx.1; omega
/-- Turned to the right. -/
def rotR (x : Int) (n : Nat) : Int := bits .or .u32 (x.fdiv (2 ^ n)) (IntKind.u32.wrap (x * 2 ^ (32 - n)))
theorem and31 : ∀ n : Fin 32, 1 ≤ n.val → bits .and .u64 (IntKind.u64.wrap (-(n.val : Int))) 31 = 32 - (n.val : Int) := by decide +kernel
theorem and31' {n : Nat} (h : 1 ≤ n ∧ n ≤ 31) : bits .and .u64 (IntKind.u64.wrap (-(n : Int))) 31 = 32 - (n : Int) := and31 ⟨n, by omega⟩ h.1
def s0 (x : Int) : Int := bits .xor .u32 (bits .xor .u32 (rotR x 7) (rotR x 18)) (x.fdiv 8)
def s1 (x : Int) : Int := bits .xor .u32 (bits .xor .u32 (rotR x 17) (rotR x 19)) (x.fdiv 1024)
def S0 (x : Int) : Int := bits .xor .u32 (bits .xor .u32 (rotR x 2) (rotR x 13)) (rotR x 22)
def S1 (x : Int) : Int := bits .xor .u32 (bits .xor .u32 (rotR x 6) (rotR x 11)) (rotR x 25)
def chF (e f g : Int) : Int := bits .xor .u32 (bits .and .u32 e f) (bits .and .u32 (bits .xor .u32 4294967295 e) g)
def maF (a b c : Int) : Int := bits .xor .u32 (bits .xor .u32 (bits .and .u32 a b) (bits .and .u32 a c)) (bits .and .u32 b c)
def a32 (x y : Int) : Int := IntKind.u32.wrap (x + y)
structure S8 where
  (a b c d e f g h : Int)
def t1F (K W : List Int) (i : Nat) (s : S8) : Int := a32 (a32 (a32 (a32 s.h (S1 s.e)) (chF s.e s.f s.g)) (K.getD i 0)) (W.getD i 0)
def rdF (K W : List Int) (i : Nat) (s : S8) : S8 := ⟨a32 (t1F K W i s) (a32 (S0 s.a) (maF s.a s.b s.c)), s.a, s.b, s.c, a32 s.d (t1F K W i s), s.e, s.f, s.g⟩
def rd (K W : List Int) (s : S8) : Nat → S8
  | 0 => s
  | i + 1 => rdF K W i (rd K W s i)
def wordV (bs : List Int) (o : Nat) : Int := byB bs o * 16777216 + byB bs (o + 1) * 65536 + byB bs (o + 2) * 256 + byB bs (o + 3)
def mixF (w : List Int) (i : Nat) : Int := a32 (a32 (a32 (w.getD (i - 16) 0) (s0 (w.getD (i - 15) 0))) (w.getD (i - 7) 0)) (s1 (w.getD (i - 2) 0))
def sch (bs : List Int) (o : Nat) : Nat → List Int
  | 0 => List.replicate 64 0
  | i + 1 => (sch bs o i).set i (if i < 16 then wordV bs (o + 4 * i) else mixF (sch bs o i) i)
theorem sch_len (bs : List Int) (o : Nat) : ∀ i, (sch bs o i).length = 64
  | 0 => by simp [sch]
  | i + 1 => by simp [sch, sch_len bs o i]
def add8 (s t : S8) : S8 := ⟨a32 s.a t.a, a32 s.b t.b, a32 s.c t.c, a32 s.d t.d, a32 s.e t.e, a32 s.f t.f, a32 s.g t.g, a32 s.h t.h⟩
/-- A block stirred in. -/
def comp (K : List Int) (s : S8) (bs : List Int) (o : Nat) : S8 := add8 s (rd K (sch bs o 64) s 64)
theorem p2_32 {n : Nat} (h : n ≤ 32) : (2 : Int) ^ min n IntKind.u32.bits = 2 ^ n := by rw [show IntKind.u32.bits = 32 from rfl, Nat.min_eq_left h]
-- left out: turn_c
theorem rot_c (x : Int) (n : Nat) (m : AMem) (h : 1 ≤ n ∧ n ≤ 31) : Ctr Try.prog 87 [.one (.int .u32 x), .one (.int .i64 (-(n : Int)))] m (.one (.int .u32 (rotR x n))) m := by
  refine Ctr.enter Try.func87 rfl (by decide) (rs := [.tmp 4]) (nt := 17) rfl rfl fun hwf Q hQ => ?_
  have e0 := and31' h
  have e3 : 32 - (n : Int) = ((32 - n : Nat) : Int) := by omega
  rw [e3] at e0
  have e1 : IntKind.u64.wrap (32 - ((32 - n : Nat) : Int)) = (n : Int) := by rw [IntKind.wrap_u64]; omega
  have q1 := p2_32 (n := n) (by omega)
  have q2 := p2_32 (n := 32 - n) (by omega)
  have c1 : ¬ (n : Int) < 0 := by omega
  have c2 : ¬ ((32 - n : Nat) : Int) < 0 := by omega
  have oc := or_comm (x.fdiv (2 ^ n)) (IntKind.u32.wrap (x * 2 ^ (32 - n)))
  iterate 3
    refine AW.seq_k fun K hK => ?_
    refine AW.region (by decide) ?_
    simp only [push_cast, simprocAttr, e0, e1, q1, q2, c1, c2]
    refine Thn_n ?_
    refine hK _ _ ?_
    clear hK K
  refine AW.ret ?_
  refine hQ _ _ _ ?_
  first | refine RetP.drop0 (Or.inr rfl) ?_ ?_ hwf | refine RetP.drop (Or.inr rfl) ?_ ?_ hwf
  · simp only [resA, resOne, resTv, AV.tv, push_cast, simprocAttr, e0, e1, q1, q2, c1, c2, rotR, oc]
  · rfl
end Go.Proofs.Ytdkfbbjpblfclaa

set_option linter.unusedSimpArgs false
set_option linter.unusedVariables false
set_option maxRecDepth 100000
set_option maxHeartbeats 4000000
namespace Go.Proofs.Ytdkfbbjpblfclaa
open Go Go.Eng

def KW : List Int := [1116352408, 1899447441, 3049323471, 3921009573, 961987163, 1508970993, 2453635748, 2870763221, 3624381080, 310598401, 607225278, 1426881987, 1925078388, 2162078206, 2614888103, 3248222580, 3835390401, 4022224774, 264347078, 604807628, 770255983, 1249150122, 1555081692, 1996064986, 2554220882, 2821834349, 2952996808, 3210313671, 3336571891, 3584528711, 113926993, 338241895, 666307205, 773529912, 1294757372, 1396182291, 1695183700, 1986661051, 2177026350, 2456956037, 2730485921, 2820302411, 3259730800, 3345764771, 3516065817, 3600352804, 4094571909, 275423344, 430227734, 506948616, 659060556, 883997877, 958139571, 1322822218, 1537002063, 1747873779, 1955562222, 2024104815, 2227730452, 2361852424, 2428436474, 2756734187, 3204031479, 3329325298]
def IV : S8 := ⟨1779033703, 3144134277, 1013904242, 2773480762, 1359893119, 2600822924, 528734635, 1541459225⟩
def pS (m : AMem) (rp : Nat) (S : S8) (b : CV) (n : Int) : AMem := m.set rp ⟨.fix, 128, 0, 0, [.int .u32 (S).a, .int .u32 (S).b, .int .u32 (S).c, .int .u32 (S).d, .int .u32 (S).e, .int .u32 (S).f, .int .u32 (S).g, .int .u32 (S).h, b, .int .u64 n]⟩
theorem pS_len (m : AMem) (rp : Nat) (S : S8) (b : CV) (n : Int) : (pS m rp S b n).length = m.length := List.length_set
theorem pS_wf {L : Nat} {m : AMem} (rp : Nat) (S : S8) {b : CV} (n : Int) (hb : b.below L = true) (h : MWf L m) : MWf L (pS m rp S b n) := fun x hx => by
  rcases List.mem_or_eq_of_mem_set hx with h1 | rfl
  · exact h x h1
  · show List.all [.int .u32 (S).a, .int .u32 (S).b, .int .u32 (S).c, .int .u32 (S).d, .int .u32 (S).e, .int .u32 (S).f, .int .u32 (S).g, .int .u32 (S).h, b, .int .u64 n] (CV.below L) = true
    simp only [List.all_cons, List.all_nil]; rw [hb]; rfl
def fourL (n : Int) : List Int := [IntKind.u8.wrap (n.fdiv 16777216), IntKind.u8.wrap (n.fdiv 65536), IntKind.u8.wrap (n.fdiv 256), IntKind.u8.wrap n]
theorem setL_full {α : Type} : ∀ {vs l : List α}, l.length = vs.length → setL l 0 vs = vs := by
  have h : ∀ (vs l pre : List α), l.length = vs.length → setL (pre ++ l) pre.length vs = pre ++ vs := by
    intro vs
    induction vs with
    | nil => intro l pre h; cases l with
      | nil => rfl
      | cons => simp at h
    | cons v vs ih =>
      intro l pre h
      cases l with
      | nil => simp at h
      | cons x l =>
        have := ih l (pre ++ [v]) (by simpa using h)
        simp only [setL]
        rw [List.set_append_right _ _ (Nat.le_refl _), Nat.sub_self, List.set_cons_zero]
        simpa using this
  intro vs l hl
  exact h vs l [] hl
theorem wordV_or {b0 b1 b2 b3 : Int} (h0 : 0 ≤ b0 ∧ b0 ≤ 255) (h1 : 0 ≤ b1 ∧ b1 ≤ 255) (h2 : 0 ≤ b2 ∧ b2 ≤ 255) (h3 : 0 ≤ b3 ∧ b3 ≤ 255) :
    bits .or .u32 (bits .or .u32 (bits .or .u32 (b0 * 16777216) (b1 * 65536)) (b2 * 256)) b3 = b0 * 16777216 + b1 * 65536 + b2 * 256 + b3 := by
  have e1 : bits .or .u32 (b0 * 16777216) (b1 * 65536) = b0 * 16777216 + b1 * 65536 := or_add 24 b0 ⟨by omega, by omega⟩ (by omega) (by omega) h0.1 (by omega) (by decide)
  have e2 : bits .or .u32 (b0 * 16777216 + b1 * 65536) (b2 * 256) = b0 * 16777216 + b1 * 65536 + b2 * 256 := or_add 16 (b0 * 256 + b1) ⟨by omega, by omega⟩ (by omega) (by omega) (by omega) (by omega) (by decide)
  rw [e1, e2]
  exact or_add 8 (b0 * 65536 + b1 * 256 + b2) ⟨by omega, by omega⟩ (by omega) (by omega) (by omega) (by omega) (by decide)
theorem words_c (m : AMem) : Ctr Try.prog 85 [] m (.agg (ul KW)) m := by
  refine Ctr.enter Try.func85 rfl (by decide) (rs := [.cell 0 146]) (nt := 2) rfl rfl fun hwf Q hQ => ?_
  iterate 2
    refine AW.seq_k fun K hK => ?_
    refine AW.region (by decide) ?_
    simp only [push_cast, simprocAttr]
    refine Thn_n ?_
    refine hK _ _ ?_
    clear hK K
  refine AW.ret ?_
  refine hQ _ _ _ ?_
  first | refine RetP.drop0 (Or.inr rfl) ?_ ?_ hwf | refine RetP.drop (Or.inr rfl) ?_ ?_ hwf
  · simp only [resA, resOne, resTv, AV.tv, push_cast, simprocAttr, ul, KW]
  · rfl
theorem new_c (m : AMem) : Ctr Try.prog 52 [] m (.one (.ptr m.length 0 0)) (m ++ [⟨.fix, 128, 0, 0, [.int .u32 (IV).a, .int .u32 (IV).b, .int .u32 (IV).c, .int .u32 (IV).d, .int .u32 (IV).e, .int .u32 (IV).f, .int .u32 (IV).g, .int .u32 (IV).h, .nils, .int .u64 0]⟩]) := by
  refine Ctr.enter Try.func52 rfl (by decide) (rs := [.tmp 0]) (nt := 4) rfl rfl fun hwf Q hQ => ?_
  iterate 2
    refine AW.seq_k fun K hK => ?_
    refine AW.region (by decide) ?_
    simp only [push_cast, simprocAttr]
    refine Thn_n ?_
    refine hK _ _ ?_
    clear hK K
  refine AW.ret ?_
  refine hQ _ _ _ ?_
  refine RetP.pick [(m.length, 0)] (Or.inr rfl) ?_ ?_ ?_ hwf ?_
  · simp only [resA, resOne, resTv, AV.tv, push_cast, simprocAttr]
    simp [renV, renT, renL, renC, renIdx]
  · simp only [picks, push_cast, simprocAttr]; rfl
  · simp [distinctFrom]
  · exact MWf_one rfl
  
theorem four_c (n : Int) (m : AMem) : Ctr Try.prog 71 [.one (.int .u32 n)] m (.one (.sl m.length 0 0 4)) (m ++ [⟨.grow, 5, 0, 1, u8l (fourL n)⟩]) := by
  refine Ctr.enter Try.func71 rfl (by decide) (rs := [.tmp 2]) (nt := 15) rfl rfl fun hwf Q hQ => ?_
  have q1 := p2_32 (n := 24) (by decide)
  have q2 := p2_32 (n := 16) (by decide)
  have q3 := p2_32 (n := 8) (by decide)
  have q4 : (2:Int)^24 = 16777216 := by decide
  have q5 : (2:Int)^16 = 65536 := by decide
  have q6 : (2:Int)^8 = 256 := by decide
  iterate 2
    refine AW.seq_k fun K hK => ?_
    refine AW.region (by decide) ?_
    simp only [push_cast, simprocAttr, q1, q2, q3, q4, q5, q6]
    refine Thn_n ?_
    refine hK _ _ ?_
    clear hK K
  refine AW.ret ?_
  refine hQ _ _ _ ?_
  refine RetP.pick [(m.length, 0)] (Or.inr rfl) ?_ ?_ ?_ hwf ?_
  · simp only [resA, resOne, resTv, AV.tv, push_cast, simprocAttr]
    simp [renV, renT, renL, renC, renIdx]
  · simp only [picks, push_cast, simprocAttr]; rfl
  · simp [distinctFrom]
  · exact MWf_one (u8l_below _ _)
  
theorem word_c (rb v off len : Nat) (bs : List Int) (m : AMem) (hb : ∃ k ez, m[rb]? = some ⟨k, 5, v, ez, u8l bs⟩) (hl : 4 ≤ len) (hf : off + len ≤ bs.length) (hu : ∀ i, 0 ≤ byB bs i ∧ byB bs i ≤ 255) : Ctr Try.prog 86 [.one (.sl rb v off len)] m (.one (.int .u32 (wordV bs off))) m := by
  refine Ctr.enter Try.func86 rfl (by decide) (rs := [.tmp 2]) (nt := 25) rfl rfl fun hwf Q hQ => ?_
  obtain ⟨k0, ez, hb⟩ := hb
  have lb := get_lt hb
  have g0 := u8l_get (bs := bs) (i := off) (by omega)
  have u0 := hu (off)
  have x0 : IntKind.u32.wrap (byB bs (off)) = byB bs (off) := by rw [w32]; omega
  have c0 : (0 : Int) < (len : Int) := by omega
  have g1 := u8l_get (bs := bs) (i := off + 1) (by omega)
  have u1 := hu (off + 1)
  have x1 : IntKind.u32.wrap (byB bs (off + 1)) = byB bs (off + 1) := by rw [w32]; omega
  have c1 : (1 : Int) < (len : Int) := by omega
  have g2 := u8l_get (bs := bs) (i := off + 2) (by omega)
  have u2 := hu (off + 2)
  have x2 : IntKind.u32.wrap (byB bs (off + 2)) = byB bs (off + 2) := by rw [w32]; omega
  have c2 : (2 : Int) < (len : Int) := by omega
  have g3 := u8l_get (bs := bs) (i := off + 3) (by omega)
  have u3 := hu (off + 3)
  have x3 : IntKind.u32.wrap (byB bs (off + 3)) = byB bs (off + 3) := by rw [w32]; omega
  have c3 : (3 : Int) < (len : Int) := by omega
  have q1 := p2_32 (n := 24) (by decide)
  have q2 := p2_32 (n := 16) (by decide)
  have q3 := p2_32 (n := 8) (by decide)
  have q4 : (2:Int)^24 = 16777216 := by decide
  have q5 : (2:Int)^16 = 65536 := by decide
  have q6 : (2:Int)^8 = 256 := by decide
  have y0 : IntKind.u32.wrap (byB bs off * 16777216) = byB bs off * 16777216 := by rw [w32]; omega
  have y1 : IntKind.u32.wrap (byB bs (off + 1) * 65536) = byB bs (off + 1) * 65536 := by rw [w32]; omega
  have y2 : IntKind.u32.wrap (byB bs (off + 2) * 256) = byB bs (off + 2) * 256 := by rw [w32]; omega
  have hw := wordV_or u0 u1 u2 u3
  refine AW.seq_k fun K hK => ?_
  refine AW.region (by decide) ?_
  simp only [push_cast, simprocAttr, hb, lk_old hb, g0, g1, g2, g3, x0, x1, x2, x3, c0, c1, c2, c3, q1, q2, q3, q4, q5, q6, y0, y1, y2]
  refine Thn_n ?_
  refine hK _ _ ?_
  clear hK K
  refine AW.seq_k fun K hK => ?_
  refine AW.draw [.val, .val, .rd 0, .val, .val, .val, .val, .rd 0, .val, .val, .val, .val, .val, .rd 0, .val, .val, .val, .val, .val, .rd 0, .val, .val, .val] fol (by decide) (by kernel_rfl) ?_
  simp only [push_cast, simprocAttr, hb, lk_old hb, g0, g1, g2, g3, x0, x1, x2, x3, c0, c1, c2, c3, q1, q2, q3, q4, q5, q6, y0, y1, y2]
  refine Thn_n ?_
  refine hK _ _ ?_
  clear hK K
  refine AW.ret ?_
  refine hQ _ _ _ ?_
  first | refine RetP.drop0 (Or.inr rfl) ?_ ?_ hwf | refine RetP.drop (Or.inr rfl) ?_ ?_ hwf
  · simp only [resA, resOne, resTv, AV.tv, push_cast, simprocAttr, hb, lk_old hb, g0, g1, g2, g3, x0, x1, x2, x3, c0, c1, c2, c3, q1, q2, q3, q4, q5, q6, y0, y1, y2, wordV, hw]
  · rfl
end Go.Proofs.Ytdkfbbjpblfclaa

set_option linter.unusedSimpArgs false
set_option linter.unusedVariables false
set_option maxRecDepth 100000
set_option maxHeartbeats 4000000
namespace Go.Proofs.Ytdkfbbjpblfclaa
open Go Go.Eng

theorem stir_c (rp : Nat) (S : S8) (bc : CV) (n : Int) (rb v off len : Nat) (bs : List Int) (m : AMem) (hp : m[rp]? = some ⟨.fix, 128, 0, 0, [.int .u32 (S).a, .int .u32 (S).b, .int .u32 (S).c, .int .u32 (S).d, .int .u32 (S).e, .int .u32 (S).f, .int .u32 (S).g, .int .u32 (S).h, bc, .int .u64 n]⟩) (hbc : bc.below m.length = true) (hb : ∃ k ez, m[rb]? = some ⟨k, 5, v, ez, u8l bs⟩) (hl : 64 ≤ len) (hl2 : len ≤ 1000000000) (hf : off + len ≤ bs.length) (hu : ∀ i, 0 ≤ byB bs i ∧ byB bs i ≤ 255) : Ctr Try.prog 70 [.one (.ptr rp 0 0), .one (.sl rb v off len)] m (.tup []) (pS m rp (comp KW S bs off) bc n) := by
  refine Ctr.enter Try.func70 rfl (by decide) (rs := []) (nt := 204) rfl rfl fun hwf Q hQ => ?_
  obtain ⟨k0, ez, hb⟩ := id hb
  have lp := get_lt hp
  have lb := get_lt hb
  have npb : rb ≠ rp := fun e => by subst e; rw [hp] at hb; simp at hb
  have npb2 : rp ≠ rb := fun e => npb e.symm
  have hKw : setL [CV.int .u32 0, CV.int .u32 0, CV.int .u32 0, CV.int .u32 0, CV.int .u32 0, CV.int .u32 0, CV.int .u32 0, CV.int .u32 0, CV.int .u32 0, CV.int .u32 0, CV.int .u32 0, CV.int .u32 0, CV.int .u32 0, CV.int .u32 0, CV.int .u32 0, CV.int .u32 0, CV.int .u32 0, CV.int .u32 0, CV.int .u32 0, CV.int .u32 0, CV.int .u32 0, CV.int .u32 0, CV.int .u32 0, CV.int .u32 0, CV.int .u32 0, CV.int .u32 0, CV.int .u32 0, CV.int .u32 0, CV.int .u32 0, CV.int .u32 0, CV.int .u32 0, CV.int .u32 0, CV.int .u32 0, CV.int .u32 0, CV.int .u32 0, CV.int .u32 0, CV.int .u32 0, CV.int .u32 0, CV.int .u32 0, CV.int .u32 0, CV.int .u32 0, CV.int .u32 0, CV.int .u32 0, CV.int .u32 0, CV.int .u32 0, CV.int .u32 0, CV.int .u32 0, CV.int .u32 0, CV.int .u32 0, CV.int .u32 0, CV.int .u32 0, CV.int .u32 0, CV.int .u32 0, CV.int .u32 0, CV.int .u32 0, CV.int .u32 0, CV.int .u32 0, CV.int .u32 0, CV.int .u32 0, CV.int .u32 0, CV.int .u32 0, CV.int .u32 0, CV.int .u32 0, CV.int .u32 0] 0 (ul KW) = ul KW := setL_full rfl
  have sa : ∀ (L : AMem) (b : Blk), (m ++ L).set rp b = m.set rp b ++ L := fun L b => List.set_append_left _ _ lp
  have sb : ∀ (L : AMem) (b c : Blk), (m.set rp b ++ L).set rp c = m.set rp c ++ L := fun L b c => by rw [List.set_append_left _ _ (by rw [List.length_set]; exact lp), List.set_set]
  have ga : ∀ (L : AMem) (b : Blk), (m.set rp b ++ L)[rp]? = some b := fun L b => by rw [List.getElem?_append_left (by rw [List.length_set]; exact lp), List.getElem?_set_self lp]
  have lK : (ul KW).length = 64 := rfl
  have lS := fun i => sch_len bs off i
  have q1 := p2_32 (n := 3) (by decide)
  have q2 := p2_32 (n := 10) (by decide)
  have q3 : (2:Int)^3 = 8 := by decide
  have q4 : (2:Int)^10 = 1024 := by decide
  have hmx : (if IntKind.u32.signed = true then (-1 : Int) else IntKind.u32.max) = 4294967295 := by decide
  have g00 := fun b : Blk => List.getElem?_set_self (l := m) (i := rp) (a := b) lp
  have gne := fun b : Blk => List.getElem?_set_ne (l := m) (i := rp) (j := rb) (a := b) npb2
  
  refine AW.seq_k fun K hK => ?_
  refine AW.region (by decide) ?_
  simp only [push_cast, simprocAttr, hb, lk_old hb, hp, lk_old hp, ul_vals, ul_len, lS, lK, hKw, Int.le_refl, sa, sb, ga, q1, q2, q3, q4, hmx, g00, gne, lp, List.set_set]
  refine CThen.by (words_c _) ?_
  simp only [push_cast, simprocAttr, hb, lk_old hb, hp, lk_old hp, ul_vals, ul_len, lS, lK, hKw, Int.le_refl, sa, sb, ga, q1, q2, q3, q4, hmx, g00, gne, lp, List.set_set]
  refine Thn_n ?_
  refine hK _ _ ?_
  clear hK K
  refine AW.seq_k fun K hK => ?_
  refine AW.region (by decide) ?_
  simp only [push_cast, simprocAttr, hb, lk_old hb, hp, lk_old hp, ul_vals, ul_len, lS, lK, hKw, Int.le_refl, sa, sb, ga, q1, q2, q3, q4, hmx, g00, gne, lp, List.set_set]
  refine Thn_n ?_
  refine hK _ _ ?_
  clear hK K
  refine AW.seq_k fun K hK => ?_
  refine AW.seq_k fun K hK => ?_
  refine AW.region (by decide) ?_
  simp only [push_cast, simprocAttr, hb, lk_old hb, hp, lk_old hp, ul_vals, ul_len, lS, lK, hKw, Int.le_refl, sa, sb, ga, q1, q2, q3, q4, hmx, g00, gne, lp, List.set_set]
  refine Thn_n ?_
  refine hK _ _ ?_
  clear hK K
  refine AW.block ?_
  refine AW.loopK [0, 1, 4, 5] (fun i => i ≤ (16 : Nat)) (fun i => [(24, .one (.int .i64 (i : Int)))]) (fun i => [(m.length + 1, ⟨.fix, 146, 0, 0, ul (sch bs off i)⟩)]) (fun i => 16 - i) 0 (by omega) ?_ ?_ fun i hi5 => ?_
  · first | rfl | (simp only [Keeps, Tm.get_cons, Nat.reduceEqDiff, ↓reduceIte, if_true, if_false, ite_true, ite_false, true_and, and_true, and_self, reduceCtorEq] <;> rfl)
  · first | rfl | (simp only [setAll, push_cast, simprocAttr, hb, lk_old hb, hp, lk_old hp, ul_vals, ul_len, lS, lK, hKw, Int.le_refl, sa, sb, ga, q1, q2, q3, q4, hmx, g00, gne, lp, List.set_set] <;> rfl)
  try simp only [keepL, setAll, push_cast, simprocAttr, hb, lk_old hb, hp, lk_old hp, ul_vals, ul_len, lS, lK, hKw, Int.le_refl, sa, sb, ga, q1, q2, q3, q4, hmx, g00, gne, lp, List.set_set]
  refine AW.seq_k fun K hK => ?_
  refine AW.region (by decide) ?_
  simp only [push_cast, simprocAttr, hb, lk_old hb, hp, lk_old hp, ul_vals, ul_len, lS, lK, hKw, Int.le_refl, sa, sb, ga, q1, q2, q3, q4, hmx, g00, gne, lp, List.set_set]
  refine Thn_n ?_
  refine hK _ _ ?_
  clear hK K
  refine AW.seq_k fun K hK => ?_
  refine AW.cond rfl (fun h25 => ?_) (fun h25 => ?_)
  · have hlt : i < 16 := by have := of_decide_eq_true h25; omega
    have c1 : (0 : Int) ≤ 4 * (i : Int) := by omega
    have c2 : 4 * (i : Int) ≤ (len : Int) := by omega
    have w1 : IntKind.i64.wrap (4 * (i : Int)) = 4 * (i : Int) := wi (by omega)
    have w2 : (4 * (i : Int)).toNat = 4 * i := by omega
    have c3 : (0 : Int) ≤ (i : Int) := by omega
    have c4 : (i : Int) < 64 := by omega
    have c5 : i + 1 ≤ 64 := by omega
    have snx : ((ul (sch bs off i)).set i (.int .u32 (wordV bs (off + 4 * i)))) = ul (sch bs off (i + 1)) := by rw [ul_set]; simp only [sch, if_pos hlt]
    refine AW.skip ?_
    refine Thn_n ?_
    refine hK _ _ ?_
    clear hK K
    refine AW.seq_k fun K hK => ?_
    refine AW.block ?_
    refine AW.seq_k fun K hK => ?_
    refine AW.region (by decide) ?_
    simp only [push_cast, simprocAttr, hb, lk_old hb, hp, lk_old hp, ul_vals, ul_len, lS, lK, hKw, Int.le_refl, sa, sb, ga, q1, q2, q3, q4, hmx, g00, gne, lp, List.set_set, c1, c2, w1, w2, c3, c4, c5]
    refine Thn_n ?_
    refine hK _ _ ?_
    clear hK K
    refine AW.region (by decide) ?_
    simp only [push_cast, simprocAttr, hb, lk_old hb, hp, lk_old hp, ul_vals, ul_len, lS, lK, hKw, Int.le_refl, sa, sb, ga, q1, q2, q3, q4, hmx, g00, gne, lp, List.set_set, c1, c2, w1, w2, c3, c4, c5]
    refine CThen.by (word_c rb v (off + 4 * i) (len - 4 * i) bs _ ⟨_, _, lk_old hb _⟩ (by omega) (by omega) hu) ?_
    simp only [push_cast, simprocAttr, hb, lk_old hb, hp, lk_old hp, ul_vals, ul_len, lS, lK, hKw, Int.le_refl, sa, sb, ga, q1, q2, q3, q4, hmx, g00, gne, lp, List.set_set, c1, c2, w1, w2, c3, c4, c5]
    refine InB_n ?_
    refine Thn_n ?_
    refine hK _ _ ?_
    clear hK K
    refine AW.region (by decide) ?_
    simp only [push_cast, simprocAttr, hb, lk_old hb, hp, lk_old hp, ul_vals, ul_len, lS, lK, hKw, Int.le_refl, sa, sb, ga, q1, q2, q3, q4, hmx, g00, gne, lp, List.set_set, c1, c2, w1, w2, c3, c4, c5]
    refine Thn_n ?_
    have hwi : IntKind.i64.wrap ((i:Int)+1) = (i:Int)+1 := wi (by omega)
    refine ⟨i + 1, by omega, by omega, ?_⟩
    try simp only [keepL, setAll, push_cast, simprocAttr, hb, lk_old hb, hp, lk_old hp, ul_vals, ul_len, lS, lK, hKw, Int.le_refl, sa, sb, ga, q1, q2, q3, q4, hmx, g00, gne, lp, List.set_set, c1, c2, w1, w2, c3, c4, c5, hwi, snx]
    exact Weak.same (by simp only [Keeps, Tm.get_cons, Nat.reduceEqDiff, ↓reduceIte, if_true, if_false, ite_true, ite_false, true_and, and_true, and_self, reduceCtorEq, hwi, snx]) (by first | rfl | simp only [Keeps, Tm.get_cons, Nat.reduceEqDiff, ↓reduceIte, if_true, if_false, ite_true, ite_false, true_and, and_true, and_self, reduceCtorEq, hwi, snx])
  · have hin : i = 16 := by have := of_decide_eq_false h25; omega
    subst hin
    refine AW.exit ?_
    refine Thn_e ?_
    clear hK K
    refine Thn_e ?_
    refine InB_here ?_
    refine Thn_n ?_
    refine hK _ _ ?_
    clear hK K
    refine AW.seq_k fun K hK => ?_
    refine AW.seq_k fun K hK => ?_
    refine AW.region (by decide) ?_
    simp only [push_cast, simprocAttr, hb, lk_old hb, hp, lk_old hp, ul_vals, ul_len, lS, lK, hKw, Int.le_refl, sa, sb, ga, q1, q2, q3, q4, hmx, g00, gne, lp, List.set_set]
    refine Thn_n ?_
    refine hK _ _ ?_
    clear hK K
    refine AW.block ?_
    refine AW.loopK [0, 4, 5] (fun i => (16 : Nat) ≤ i ∧ i ≤ (64 : Nat)) (fun i => [(7, .one (.int .i64 (i : Int)))]) (fun i => [(m.length + 1, ⟨.fix, 146, 0, 0, ul (sch bs off i)⟩)]) (fun i => 64 - i) 16 ⟨by omega, by omega⟩ ?_ ?_ fun i hi12 => ?_
    · first | rfl | (simp only [Keeps, Tm.get_cons, Nat.reduceEqDiff, ↓reduceIte, if_true, if_false, ite_true, ite_false, true_and, and_true, and_self, reduceCtorEq] <;> rfl)
    · first | rfl | (simp only [setAll, push_cast, simprocAttr, hb, lk_old hb, hp, lk_old hp, ul_vals, ul_len, lS, lK, hKw, Int.le_refl, sa, sb, ga, q1, q2, q3, q4, hmx, g00, gne, lp, List.set_set] <;> rfl)
    obtain ⟨hi16, hi64⟩ := hi12
    try simp only [keepL, setAll, push_cast, simprocAttr, hb, lk_old hb, hp, lk_old hp, ul_vals, ul_len, lS, lK, hKw, Int.le_refl, sa, sb, ga, q1, q2, q3, q4, hmx, g00, gne, lp, List.set_set]
    refine AW.seq_k fun K hK => ?_
    refine AW.seq_k fun K hK => ?_
    refine AW.region (by decide) ?_
    simp only [push_cast, simprocAttr, hb, lk_old hb, hp, lk_old hp, ul_vals, ul_len, lS, lK, hKw, Int.le_refl, sa, sb, ga, q1, q2, q3, q4, hmx, g00, gne, lp, List.set_set]
    refine Thn_n ?_
    refine hK _ _ ?_
    clear hK K
    refine AW.cond rfl (fun h36 => ?_) (fun h36 => ?_)
    · have hlt : i < 64 := by have := of_decide_eq_true h36; omega
      have c3 : (0 : Int) ≤ (i : Int) := by omega
      have c4 : (i : Int) < 64 := by omega
      have c5 : i + 1 ≤ 64 := by omega
      have g15 := ul_get (xs := sch bs off i) (i := i - 15) (by rw [sch_len]; omega)
      have v15 : IntKind.i64.wrap ((i : Int) - 15) = (i : Int) - 15 := wi (by omega)
      have d15 : (0 : Int) ≤ (i : Int) - 15 := by omega
      have f15 : (i : Int) - 15 < 64 := by omega
      have z15 : ((i : Int) - 15).toNat = i - 15 := by omega
      have g2 := ul_get (xs := sch bs off i) (i := i - 2) (by rw [sch_len]; omega)
      have v2 : IntKind.i64.wrap ((i : Int) - 2) = (i : Int) - 2 := wi (by omega)
      have d2 : (0 : Int) ≤ (i : Int) - 2 := by omega
      have f2 : (i : Int) - 2 < 64 := by omega
      have z2 : ((i : Int) - 2).toNat = i - 2 := by omega
      have g16 := ul_get (xs := sch bs off i) (i := i - 16) (by rw [sch_len]; omega)
      have v16 : IntKind.i64.wrap ((i : Int) - 16) = (i : Int) - 16 := wi (by omega)
      have d16 : (0 : Int) ≤ (i : Int) - 16 := by omega
      have f16 : (i : Int) - 16 < 64 := by omega
      have z16 : ((i : Int) - 16).toNat = i - 16 := by omega
      have g7 := ul_get (xs := sch bs off i) (i := i - 7) (by rw [sch_len]; omega)
      have v7 : IntKind.i64.wrap ((i : Int) - 7) = (i : Int) - 7 := wi (by omega)
      have d7 : (0 : Int) ≤ (i : Int) - 7 := by omega
      have f7 : (i : Int) - 7 < 64 := by omega
      have z7 : ((i : Int) - 7).toNat = i - 7 := by omega
      have snx : ((ul (sch bs off i)).set i (.int .u32 (mixF (sch bs off i) i))) = ul (sch bs off (i + 1)) := by rw [ul_set]; simp only [sch]; rw [if_neg (by omega)]
      simp only [mixF, a32, s0, s1] at snx
      refine AW.skip ?_
      refine Thn_n ?_
      refine hK _ _ ?_
      clear hK K
      refine AW.seq_k fun K hK => ?_
      refine AW.block ?_
      refine AW.seq_k fun K hK => ?_
      refine AW.draw [.val, .val, .val, .rd 0, .val, .val, .val, .rd 0, .val, .val] fol (by decide) (by kernel_rfl) ?_
      simp only [push_cast, simprocAttr, hb, lk_old hb, hp, lk_old hp, ul_vals, ul_len, lS, lK, hKw, Int.le_refl, sa, sb, ga, q1, q2, q3, q4, hmx, g00, gne, lp, List.set_set, c3, c4, c5, g15, v15, d15, f15, z15, g2, v2, d2, f2, z2, g16, v16, d16, f16, z16, g7, v7, d7, f7, z7]
      refine Thn_n ?_
      refine hK _ _ ?_
      clear hK K
      refine AW.draw [.val, .val, .val, .val, .rd 0, .val, .ext, .val, .ext, .val, .val, .val, .val, .val, .val, .val, .val, .rd 0, .val, .val, .ext, .val, .ext, .val, .val, .val, .val, .val, .val, .wr] fol (by decide) (by kernel_rfl) ?_
      simp only [push_cast, simprocAttr, hb, lk_old hb, hp, lk_old hp, ul_vals, ul_len, lS, lK, hKw, Int.le_refl, sa, sb, ga, q1, q2, q3, q4, hmx, g00, gne, lp, List.set_set, c3, c4, c5, g15, v15, d15, f15, z15, g2, v2, d2, f2, z2, g16, v16, d16, f16, z16, g7, v7, d7, f7, z7]
      refine DCall.by0 (rot_c _ 7 _ (by decide)) ?_
      simp only [push_cast, simprocAttr, hb, lk_old hb, hp, lk_old hp, ul_vals, ul_len, lS, lK, hKw, Int.le_refl, sa, sb, ga, q1, q2, q3, q4, hmx, g00, gne, lp, List.set_set, c3, c4, c5, g15, v15, d15, f15, z15, g2, v2, d2, f2, z2, g16, v16, d16, f16, z16, g7, v7, d7, f7, z7]
      refine DCall.by0 (rot_c _ 18 _ (by decide)) ?_
      simp only [push_cast, simprocAttr, hb, lk_old hb, hp, lk_old hp, ul_vals, ul_len, lS, lK, hKw, Int.le_refl, sa, sb, ga, q1, q2, q3, q4, hmx, g00, gne, lp, List.set_set, c3, c4, c5, g15, v15, d15, f15, z15, g2, v2, d2, f2, z2, g16, v16, d16, f16, z16, g7, v7, d7, f7, z7]
      refine DCall.by0 (rot_c _ 17 _ (by decide)) ?_
      simp only [push_cast, simprocAttr, hb, lk_old hb, hp, lk_old hp, ul_vals, ul_len, lS, lK, hKw, Int.le_refl, sa, sb, ga, q1, q2, q3, q4, hmx, g00, gne, lp, List.set_set, c3, c4, c5, g15, v15, d15, f15, z15, g2, v2, d2, f2, z2, g16, v16, d16, f16, z16, g7, v7, d7, f7, z7]
      refine DCall.by0 (rot_c _ 19 _ (by decide)) ?_
      simp only [push_cast, simprocAttr, hb, lk_old hb, hp, lk_old hp, ul_vals, ul_len, lS, lK, hKw, Int.le_refl, sa, sb, ga, q1, q2, q3, q4, hmx, g00, gne, lp, List.set_set, c3, c4, c5, g15, v15, d15, f15, z15, g2, v2, d2, f2, z2, g16, v16, d16, f16, z16, g7, v7, d7, f7, z7]
      refine InB_n ?_
      refine Thn_n ?_
      refine hK _ _ ?_
      clear hK K
      refine AW.region (by decide) ?_
      simp only [push_cast, simprocAttr, hb, lk_old hb, hp, lk_old hp, ul_vals, ul_len, lS, lK, hKw, Int.le_refl, sa, sb, ga, q1, q2, q3, q4, hmx, g00, gne, lp, List.set_set, c3, c4, c5, g15, v15, d15, f15, z15, g2, v2, d2, f2, z2, g16, v16, d16, f16, z16, g7, v7, d7, f7, z7]
      refine Thn_n ?_
      have hwi : IntKind.i64.wrap ((i:Int)+1) = (i:Int)+1 := wi (by omega)
      refine ⟨i + 1, ⟨by omega, by omega⟩, by omega, ?_⟩
      try simp only [keepL, setAll, push_cast, simprocAttr, hb, lk_old hb, hp, lk_old hp, ul_vals, ul_len, lS, lK, hKw, Int.le_refl, sa, sb, ga, q1, q2, q3, q4, hmx, g00, gne, lp, List.set_set, c3, c4, c5, g15, v15, d15, f15, z15, g2, v2, d2, f2, z2, g16, v16, d16, f16, z16, g7, v7, d7, f7, z7, hwi, snx]
      exact Weak.same (by simp only [Keeps, Tm.get_cons, Nat.reduceEqDiff, ↓reduceIte, if_true, if_false, ite_true, ite_false, true_and, and_true, and_self, reduceCtorEq, hwi, snx]) (by first | rfl | simp only [Keeps, Tm.get_cons, Nat.reduceEqDiff, ↓reduceIte, if_true, if_false, ite_true, ite_false, true_and, and_true, and_self, reduceCtorEq, hwi, snx])
    · have hin : i = 64 := by have := of_decide_eq_false h36; omega
      subst hin
      refine AW.exit ?_
      refine Thn_e ?_
      clear hK K
      refine Thn_e ?_
      refine InB_here ?_
      refine Thn_n ?_
      refine hK _ _ ?_
      clear hK K
      refine AW.seq_k fun K hK => ?_
      refine AW.draw [.val, .val, .val, .val, .rd 0, .val, .val, .val, .val, .rd 0, .val, .val, .val, .val, .rd 0, .val, .val, .val, .val, .rd 0, .val, .val, .val, .val, .rd 0, .val, .val, .val, .val, .rd 0, .val, .val, .val, .val, .rd 0, .val, .val, .val, .val, .rd 0, .val, .val, .val, .val, .val, .val, .val, .val] fol (by decide) (by kernel_rfl) ?_
      simp only [push_cast, simprocAttr, hb, lk_old hb, hp, lk_old hp, ul_vals, ul_len, lS, lK, hKw, Int.le_refl, sa, sb, ga, q1, q2, q3, q4, hmx, g00, gne, lp, List.set_set]
      refine Thn_n ?_
      refine hK _ _ ?_
      clear hK K
      refine AW.seq_k fun K hK => ?_
      refine AW.seq_k fun K hK => ?_
      refine AW.region (by decide) ?_
      simp only [push_cast, simprocAttr, hb, lk_old hb, hp, lk_old hp, ul_vals, ul_len, lS, lK, hKw, Int.le_refl, sa, sb, ga, q1, q2, q3, q4, hmx, g00, gne, lp, List.set_set]
      refine Thn_n ?_
      refine hK _ _ ?_
      clear hK K
      refine AW.block ?_
      refine AW.loopK [0, 4, 5] (fun i => i ≤ (64 : Nat)) (fun i => [(10, .one (.int .u32 (rd KW (sch bs off 64) S i).a)), (11, .one (.int .u32 (rd KW (sch bs off 64) S i).b)), (12, .one (.int .u32 (rd KW (sch bs off 64) S i).c)), (13, .one (.int .u32 (rd KW (sch bs off 64) S i).d)), (14, .one (.int .u32 (rd KW (sch bs off 64) S i).e)), (15, .one (.int .u32 (rd KW (sch bs off 64) S i).f)), (16, .one (.int .u32 (rd KW (sch bs off 64) S i).g)), (17, .one (.int .u32 (rd KW (sch bs off 64) S i).h)), (116, .one (.int .i64 (i : Int)))]) (fun i => []) (fun i => 64 - i) 0 (by omega) ?_ ?_ fun i hi20 => ?_
      · first | rfl | (simp only [Keeps, Tm.get_cons, Nat.reduceEqDiff, ↓reduceIte, if_true, if_false, ite_true, ite_false, true_and, and_true, and_self, reduceCtorEq, rd, Int.natCast_zero] <;> rfl)
      · first | rfl | (simp only [setAll, push_cast, simprocAttr, hb, lk_old hb, hp, lk_old hp, ul_vals, ul_len, lS, lK, hKw, Int.le_refl, sa, sb, ga, q1, q2, q3, q4, hmx, g00, gne, lp, List.set_set, rd, Int.natCast_zero] <;> rfl)
      try simp only [keepL, setAll, push_cast, simprocAttr, hb, lk_old hb, hp, lk_old hp, ul_vals, ul_len, lS, lK, hKw, Int.le_refl, sa, sb, ga, q1, q2, q3, q4, hmx, g00, gne, lp, List.set_set]
      refine AW.seq_k fun K hK => ?_
      refine AW.region (by decide) ?_
      simp only [push_cast, simprocAttr, hb, lk_old hb, hp, lk_old hp, ul_vals, ul_len, lS, lK, hKw, Int.le_refl, sa, sb, ga, q1, q2, q3, q4, hmx, g00, gne, lp, List.set_set]
      refine Thn_n ?_
      refine hK _ _ ?_
      clear hK K
      refine AW.seq_k fun K hK => ?_
      refine AW.cond rfl (fun h117 => ?_) (fun h117 => ?_)
      · have hlt : i < 64 := by have := of_decide_eq_true h117; omega
        have c3 : (0 : Int) ≤ (i : Int) := by omega
        have c4 : (i : Int) < 64 := by omega
        have gk := ul_get (xs := KW) (i := i) (by show i < 64; omega)
        have gw := ul_get (xs := sch bs off 64) (i := i) (by rw [sch_len]; omega)
        refine AW.skip ?_
        refine Thn_n ?_
        refine hK _ _ ?_
        clear hK K
        refine AW.seq_k fun K hK => ?_
        refine AW.block ?_
        refine AW.seq_k fun K hK => ?_
        refine AW.region (by decide) ?_
        simp only [push_cast, simprocAttr, hb, lk_old hb, hp, lk_old hp, ul_vals, ul_len, lS, lK, hKw, Int.le_refl, sa, sb, ga, q1, q2, q3, q4, hmx, g00, gne, lp, List.set_set, c3, c4, gk, gw]
        refine Thn_n ?_
        refine hK _ _ ?_
        clear hK K
        refine AW.seq_k fun K hK => ?_
        refine AW.draw [.val, .val, .ext, .val, .ext, .val, .val, .ext, .val, .val, .val, .val, .val, .val, .val, .val, .val, .val, .val, .val, .val, .rd 0, .val, .val, .val, .rd 0, .val, .val] fol (by decide) (by kernel_rfl) ?_
        simp only [push_cast, simprocAttr, hb, lk_old hb, hp, lk_old hp, ul_vals, ul_len, lS, lK, hKw, Int.le_refl, sa, sb, ga, q1, q2, q3, q4, hmx, g00, gne, lp, List.set_set, c3, c4, gk, gw]
        refine DCall.by0 (rot_c _ 6 _ (by decide)) ?_
        simp only [push_cast, simprocAttr, hb, lk_old hb, hp, lk_old hp, ul_vals, ul_len, lS, lK, hKw, Int.le_refl, sa, sb, ga, q1, q2, q3, q4, hmx, g00, gne, lp, List.set_set, c3, c4, gk, gw]
        refine DCall.by0 (rot_c _ 11 _ (by decide)) ?_
        simp only [push_cast, simprocAttr, hb, lk_old hb, hp, lk_old hp, ul_vals, ul_len, lS, lK, hKw, Int.le_refl, sa, sb, ga, q1, q2, q3, q4, hmx, g00, gne, lp, List.set_set, c3, c4, gk, gw]
        refine DCall.by0 (rot_c _ 25 _ (by decide)) ?_
        simp only [push_cast, simprocAttr, hb, lk_old hb, hp, lk_old hp, ul_vals, ul_len, lS, lK, hKw, Int.le_refl, sa, sb, ga, q1, q2, q3, q4, hmx, g00, gne, lp, List.set_set, c3, c4, gk, gw]
        refine Thn_n ?_
        refine hK _ _ ?_
        clear hK K
        refine AW.seq_k fun K hK => ?_
        refine AW.region (by decide) ?_
        simp only [push_cast, simprocAttr, hb, lk_old hb, hp, lk_old hp, ul_vals, ul_len, lS, lK, hKw, Int.le_refl, sa, sb, ga, q1, q2, q3, q4, hmx, g00, gne, lp, List.set_set, c3, c4, gk, gw]
        refine CThen.by (rot_c _ 2 _ (by decide)) ?_
        simp only [push_cast, simprocAttr, hb, lk_old hb, hp, lk_old hp, ul_vals, ul_len, lS, lK, hKw, Int.le_refl, sa, sb, ga, q1, q2, q3, q4, hmx, g00, gne, lp, List.set_set, c3, c4, gk, gw]
        refine CThen.by (rot_c _ 13 _ (by decide)) ?_
        simp only [push_cast, simprocAttr, hb, lk_old hb, hp, lk_old hp, ul_vals, ul_len, lS, lK, hKw, Int.le_refl, sa, sb, ga, q1, q2, q3, q4, hmx, g00, gne, lp, List.set_set, c3, c4, gk, gw]
        refine CThen.by (rot_c _ 22 _ (by decide)) ?_
        simp only [push_cast, simprocAttr, hb, lk_old hb, hp, lk_old hp, ul_vals, ul_len, lS, lK, hKw, Int.le_refl, sa, sb, ga, q1, q2, q3, q4, hmx, g00, gne, lp, List.set_set, c3, c4, gk, gw]
        refine Thn_n ?_
        refine hK _ _ ?_
        clear hK K
        refine AW.region (by decide) ?_
        simp only [push_cast, simprocAttr, hb, lk_old hb, hp, lk_old hp, ul_vals, ul_len, lS, lK, hKw, Int.le_refl, sa, sb, ga, q1, q2, q3, q4, hmx, g00, gne, lp, List.set_set, c3, c4, gk, gw]
        refine InB_n ?_
        refine Thn_n ?_
        refine hK _ _ ?_
        clear hK K
        refine AW.region (by decide) ?_
        simp only [push_cast, simprocAttr, hb, lk_old hb, hp, lk_old hp, ul_vals, ul_len, lS, lK, hKw, Int.le_refl, sa, sb, ga, q1, q2, q3, q4, hmx, g00, gne, lp, List.set_set, c3, c4, gk, gw]
        refine Thn_n ?_
        have hwi : IntKind.i64.wrap ((i:Int)+1) = (i:Int)+1 := wi (by omega)
        refine ⟨i + 1, by omega, by omega, ?_⟩
        try simp only [keepL, setAll, push_cast, simprocAttr, hb, lk_old hb, hp, lk_old hp, ul_vals, ul_len, lS, lK, hKw, Int.le_refl, sa, sb, ga, q1, q2, q3, q4, hmx, g00, gne, lp, List.set_set, c3, c4, gk, gw, hwi, rd, rdF, t1F, a32, S0, S1, chF, maF]
        exact Weak.same (by simp only [Keeps, Tm.get_cons, Nat.reduceEqDiff, ↓reduceIte, if_true, if_false, ite_true, ite_false, true_and, and_true, and_self, reduceCtorEq, hwi, rd, rdF, t1F, a32, S0, S1, chF, maF]) (by first | rfl | simp only [Keeps, Tm.get_cons, Nat.reduceEqDiff, ↓reduceIte, if_true, if_false, ite_true, ite_false, true_and, and_true, and_self, reduceCtorEq, hwi, rd, rdF, t1F, a32, S0, S1, chF, maF])
      · have hin : i = 64 := by have := of_decide_eq_false h117; omega
        subst hin
        refine AW.exit ?_
        refine Thn_e ?_
        clear hK K
        refine Thn_e ?_
        refine InB_here ?_
        refine Thn_n ?_
        refine hK _ _ ?_
        clear hK K
        refine AW.seq_k fun K hK => ?_
        refine AW.region (by decide) ?_
        simp only [push_cast, simprocAttr, hb, lk_old hb, hp, lk_old hp, ul_vals, ul_len, lS, lK, hKw, Int.le_refl, sa, sb, ga, q1, q2, q3, q4, hmx, g00, gne, lp, List.set_set]
        refine Thn_n ?_
        refine hK _ _ ?_
        clear hK K
        refine AW.block ?_
        refine AW.rounds 9 ?_
        iterate 8
          refine ARounds.succ fun K hK => ?_
          refine AW.seq_k fun K hK => ?_
          refine AW.region (by decide) ?_
          simp only [push_cast, simprocAttr, hb, lk_old hb, hp, lk_old hp, ul_vals, ul_len, lS, lK, hKw, Int.le_refl, sa, sb, ga, q1, q2, q3, q4, hmx, g00, gne, lp, List.set_set]
          refine Thn_n ?_
          refine hK _ _ ?_
          clear hK K
          refine AW.seq_k fun K hK => ?_
          refine AW.cond_t rfl ?_
          refine AW.skip ?_
          refine Thn_n ?_
          refine hK _ _ ?_
          clear hK K
          refine AW.seq_k fun K hK => ?_
          refine AW.block ?_
          refine AW.seq_k fun K hK => ?_
          refine AW.region (by decide) ?_
          simp only [push_cast, simprocAttr, hb, lk_old hb, hp, lk_old hp, ul_vals, ul_len, lS, lK, hKw, Int.le_refl, sa, sb, ga, q1, q2, q3, q4, hmx, g00, gne, lp, List.set_set]
          refine Thn_n ?_
          refine hK _ _ ?_
          clear hK K
          refine AW.draw [.val, .val, .val, .val, .val, .rd 0, .val, .val, .val, .val, .val, .wr] fol (by decide) (by kernel_rfl) ?_
          simp only [push_cast, simprocAttr, hb, lk_old hb, hp, lk_old hp, ul_vals, ul_len, lS, lK, hKw, Int.le_refl, sa, sb, ga, q1, q2, q3, q4, hmx, g00, gne, lp, List.set_set]
          refine InB_n ?_
          refine Thn_n ?_
          refine hK _ _ ?_
          clear hK K
          refine AW.region (by decide) ?_
          simp only [push_cast, simprocAttr, hb, lk_old hb, hp, lk_old hp, ul_vals, ul_len, lS, lK, hKw, Int.le_refl, sa, sb, ga, q1, q2, q3, q4, hmx, g00, gne, lp, List.set_set]
          refine Thn_n ?_
          refine hK _ _ ?_
          clear hK K
        refine ARounds.succ fun K hK => ?_
        refine AW.seq_k fun K hK => ?_
        refine AW.region (by decide) ?_
        simp only [push_cast, simprocAttr, hb, lk_old hb, hp, lk_old hp, ul_vals, ul_len, lS, lK, hKw, Int.le_refl, sa, sb, ga, q1, q2, q3, q4, hmx, g00, gne, lp, List.set_set]
        refine Thn_n ?_
        refine hK _ _ ?_
        clear hK K
        refine AW.seq_k fun K hK => ?_
        refine AW.cond_f rfl ?_
        refine AW.exit ?_
        refine Thn_e ?_
        clear hK K
        refine Thn_e ?_
        clear hK K
        refine InB_here ?_
        refine hQ _ _ _ ?_
        first | refine RetP.dropM0 (pS_len m rp (comp KW S bs off) bc n) (Or.inl rfl) ?_ ?_ (pS_wf rp _ n hbc hwf) | refine RetP.dropM (m1 := pS m rp (comp KW S bs off) bc n) (pS_len m rp (comp KW S bs off) bc n) (Or.inl rfl) ?_ ?_ (pS_wf rp _ n hbc hwf)
        · rfl
        · rfl
        
end Go.Proofs.Ytdkfbbjpblfclaa

set_option linter.unusedSimpArgs false
set_option linter.unusedVariables false
set_option maxRecDepth 100000
set_option maxHeartbeats 4000000
namespace Go.Proofs.Ytdkfbbjpblfclaa
open Go Go.Eng

def U8ok (l : List Int) : Prop := ∀ x, x ∈ l → 0 ≤ x ∧ x ≤ 255
theorem U8ok.by {l : List Int} (h : U8ok l) (i : Nat) : 0 ≤ byB l i ∧ byB l i ≤ 255 := by
  unfold byB
  rw [List.getD_eq_getElem?_getD]
  cases e : l[i]? with
  | none => simp
  | some x => simpa using h x (List.mem_of_getElem? e)
theorem U8ok.app {a b : List Int} (ha : U8ok a) (hb : U8ok b) : U8ok (a ++ b) := fun x hx => by
  rcases List.mem_append.1 hx with h | h
  · exact ha x h
  · exact hb x h
theorem U8ok.take {a : List Int} (ha : U8ok a) (n : Nat) : U8ok (a.take n) := fun x hx => ha x (List.mem_of_mem_take hx)
theorem U8ok.drop {a : List Int} (ha : U8ok a) (n : Nat) : U8ok (a.drop n) := fun x hx => ha x (List.mem_of_mem_drop hx)
theorem U8ok.nil : U8ok [] := fun x hx => by cases hx
/-- Some blocks stirred in, one behind the other. -/
def compN (S : S8) (bs : List Int) : Nat → S8
  | 0 => S
  | i + 1 => comp KW (compN S bs i) bs (64 * i)
structure PS where
  (S : S8) (r : List Int) (n : Int)
def absS (s : PS) (bs : List Int) : PS :=
  ⟨compN s.S (s.r ++ bs) ((s.r ++ bs).length / 64), (s.r ++ bs).drop (64 * ((s.r ++ bs).length / 64)), IntKind.u64.wrap (s.n + (bs.length : Int))⟩
def accP (s : PS) (bf : Nat → List Int) : Nat → PS
  | 0 => s
  | i + 1 => absS (accP s bf i) (bf i)
theorem absS_r (s : PS) (bs : List Int) : (absS s bs).r.length < 64 := by
  simp only [absS, List.length_drop]; omega
theorem accP_r {s : PS} (h : s.r.length < 64) (bf : Nat → List Int) : ∀ i, (accP s bf i).r.length < 64
  | 0 => h
  | i + 1 => absS_r _ _
theorem accP_ok {s : PS} (h : U8ok s.r) {bf : Nat → List Int} {np : Nat} (hb : ∀ i, i < np → U8ok (bf i)) : ∀ i, i ≤ np → U8ok (accP s bf i).r
  | 0, _ => h
  | i + 1, hi => ((accP_ok h hb i (by omega)).app (hb i (by omega))).drop _
/-- A part: a slice of bytes. -/
def PartAt (m : AMem) (bb : Nat) (c : CV) (bs : List Int) : Prop :=
  (c = .nils ∧ bs = []) ∨ ∃ rb k ty v ez off X, c = .sl rb v off bs.length ∧ rb ≠ bb ∧ m[rb]? = some ⟨k, ty, v, ez, u8l X⟩ ∧ off + bs.length ≤ X.length ∧ (X.drop off).take bs.length = bs
def prB (S : S8) (b : CV) (n : Int) : Blk := ⟨.fix, 128, 0, 0, [.int .u32 (S).a, .int .u32 (S).b, .int .u32 (S).c, .int .u32 (S).d, .int .u32 (S).e, .int .u32 (S).f, .int .u32 (S).g, .int .u32 (S).h, b, .int .u64 n]⟩
def rowB (v : Nat) (bs : List Int) : Blk := ⟨.grow, 5, v, 1, u8l bs⟩
/-- The press and its row, anew. -/
def pwr (m : AMem) (rp bb v : Nat) (s : PS) : AMem := (m.set bb (rowB v s.r)).set rp (prB s.S (.sl bb v 0 s.r.length) s.n)
theorem pwr_len (m : AMem) (rp bb v : Nat) (s : PS) : (pwr m rp bb v s).length = m.length := by simp [pwr]
theorem MWf_set {L : Nat} {m : AMem} {r : Nat} {b : Blk} (h : MWf L m) (hb : b.cells.all (CV.below L) = true) (hk : b.kind.below L = true := by rfl) : MWf L (m.set r b) := fun x hx => by
  rcases List.mem_or_eq_of_mem_set hx with h1 | rfl
  · exact h x h1
  · exact blk_below hk hb
theorem pwr_wf {L : Nat} {m : AMem} (rp bb v : Nat) (s : PS) (h : MWf L m) (hb : bb < L) : MWf L (pwr m rp bb v s) := by
  refine MWf_set (MWf_set h (u8l_below _ _)) ?_
  simp only [prB, List.all_cons, List.all_nil, CV.below, decide_eq_true hb, Bool.and_true, Bool.true_and]
theorem mk_lk {m l : AMem} (h : l.length = m.length) (L : AMem) (k : Nat) : (l ++ L)[m.length + k]? = L[k]? := by rw [← h]; exact lk_app l L k
theorem mk_lk0 {m l : AMem} (h : l.length = m.length) (L : AMem) : (l ++ L)[m.length]? = L[0]? := by rw [← h]; exact lk_app0 l L
theorem mk_set {m l : AMem} (h : l.length = m.length) (L : AMem) (k : Nat) (b : Blk) : (l ++ L).set (m.length + k) b = l ++ L.set k b := by rw [← h]; exact set_app l L k b
theorem mk_set0 {m l : AMem} (h : l.length = m.length) (L : AMem) (b : Blk) : (l ++ L).set m.length b = l ++ L.set 0 b := by rw [← h]; exact set_app0 l L b
theorem mk_old {m l : AMem} {r : Nat} (h : l.length = m.length) (hr : r < m.length) (L : AMem) : (l ++ L)[r]? = l[r]? := List.getElem?_append_left (by rw [h]; exact hr)
theorem mk_olds {m l : AMem} {r : Nat} (h : l.length = m.length) (hr : r < m.length) (L : AMem) (b : Blk) : (l ++ L).set r b = l.set r b ++ L := List.set_append_left _ _ (by rw [h]; exact hr)
theorem mk_self {m l : AMem} {r : Nat} (h : l.length = m.length) (hr : r < m.length) (b : Blk) : (l.set r b)[r]? = some b := List.getElem?_set_self (by rw [h]; exact hr)
theorem mk_comm {r s : Nat} (h : r ≠ s) (l : AMem) (a b : Blk) : (l.set r a).set s b = (l.set s b).set r a := List.set_comm _ _ h
end Go.Proofs.Ytdkfbbjpblfclaa

set_option linter.unusedSimpArgs false
set_option linter.unusedVariables false
set_option maxRecDepth 100000
set_option maxHeartbeats 4000000
namespace Go.Proofs.Ytdkfbbjpblfclaa
open Go Go.Eng

theorem write_c (rp bb vb lb vl lo np : Nat) (s0 : PS) (cf : Nat → CV) (bf : Nat → List Int) (X : List CV) (kl : BK) (el : Nat) (m : AMem) (hp : m[rp]? = some (prB s0.S (.sl bb vb 0 s0.r.length) s0.n)) (hbb : m[bb]? = some (rowB vb s0.r)) (hl : m[lb]? = some ⟨kl, 35, vl, el, X⟩) (nlb : lb ≠ bb) (hX : ∀ i, i < np → X[lo + i]? = some (cf i)) (hP : ∀ i, i < np → PartAt m bb (cf i) (bf i)) (hbl : ∀ i, i < np → (bf i).length ≤ 1000000) (hbo : ∀ i, i < np → U8ok (bf i)) (hr0 : s0.r.length < 64) (ho0 : U8ok s0.r) (hnp : np ≤ 1048576) : Ctr Try.prog 53 [.one (.ptr rp 0 0), .one (.sl lb vl lo np)] m (.tup []) (pwr m rp bb (vb + 2 * np) (accP s0 bf np)) := by
  refine Ctr.enter Try.func53 rfl (by decide) (rs := []) (nt := 64) rfl rfl fun hwf Q hQ => ?_
  have lp := get_lt hp
  have lbb := get_lt hbb
  have llb := get_lt hl
  have npb : rp ≠ bb := fun e => by subst e; rw [hp] at hbb; simp [prB, rowB] at hbb
  have nbp : bb ≠ rp := fun e => npb e.symm
  have nlp : lb ≠ rp := fun e => by subst e; rw [hp] at hl; simp [prB] at hl
  have kP := fun (l : AMem) (B : Blk) (h : l.length = m.length) => mk_self h lp B
  have kB : ∀ (l : AMem) (A B : Blk) (h : l.length = m.length), ((l.set bb A).set rp B)[bb]? = some A := fun l A B h => by rw [List.getElem?_set_ne npb]; exact mk_self h lbb A
  have kO : ∀ (r : Nat) (l : AMem) (A B : Blk), r ≠ bb → r ≠ rp → ((l.set bb A).set rp B)[r]? = l[r]? := fun r l A B h1 h2 => by rw [List.getElem?_set_ne (fun e => h2 e.symm), List.getElem?_set_ne (fun e => h1 e.symm)]
  have kL := fun (l L : AMem) (h : l.length = m.length) => mk_old h lp L
  have kL2 := fun (l L : AMem) (h : l.length = m.length) => mk_old h lbb L
  have kS := fun (l L : AMem) (b : Blk) (h : l.length = m.length) => mk_olds h lp L b
  have kS2 := fun (l L : AMem) (b : Blk) (h : l.length = m.length) => mk_olds h lbb L b
  have kA := fun (l L : AMem) (h : l.length = m.length) => mk_lk0 h L
  have kAs := fun (l L : AMem) (b : Blk) (h : l.length = m.length) => mk_set0 h L b
  have kc := mk_comm npb
  have hl1 := fun (A B : Blk) => (kO lb m A B nlb nlp).trans hl
  
  refine AW.seq_k fun K hK => ?_
  refine AW.seq_k fun K hK => ?_
  refine AW.region (by decide) ?_
  simp only [push_cast, simprocAttr, kP, kB, kL, kL2, kS, kS2, kA, kAs, kc, hl1, List.set_set, List.length_set, prB, rowB, pS, u8l_len, Nat.sub_zero, Int.le_refl]
  refine Thn_n ?_
  refine hK _ _ ?_
  clear hK K
  refine AW.cond_f rfl ?_
  refine AW.skip ?_
  refine Thn_n ?_
  refine hK _ _ ?_
  clear hK K
  refine AW.seq_k fun K hK => ?_
  refine AW.region (by decide) ?_
  simp only [push_cast, simprocAttr, kP, kB, kL, kL2, kS, kS2, kA, kAs, kc, hl1, List.set_set, List.length_set, prB, rowB, pS, u8l_len, Nat.sub_zero, Int.le_refl]
  refine Thn_n ?_
  refine hK _ _ ?_
  clear hK K
  refine AW.block ?_
  refine AW.loopK [0, 8, 9] (fun i => i ≤ np) (fun i => [(10, .one (.int .i64 (i : Int)))]) (fun i => [(bb, rowB (vb + 2 * i) (accP s0 bf i).r), (rp, prB (accP s0 bf i).S (.sl bb (vb + 2 * i) 0 (accP s0 bf i).r.length) (accP s0 bf i).n)]) (fun i => np - i) 0 (by omega) ?_ ?_ fun i hi4 => ?_
  · first | rfl | (simp only [Keeps, Tm.get_cons, Nat.reduceEqDiff, ↓reduceIte, if_true, if_false, ite_true, ite_false, true_and, and_true, and_self, reduceCtorEq, accP, Nat.mul_zero, Nat.add_zero] <;> rfl)
  · simp only [setAll, accP, Nat.mul_zero, Nat.add_zero]; rw [set_self hbb, set_self hp]
  have hnx : accP s0 bf (i + 1) = absS (accP s0 bf i) (bf i) := rfl
  have hrl := accP_r hr0 bf i
  have hok := accP_ok ho0 hbo i hi4
  generalize hst : accP s0 bf i = st at hnx hrl hok ⊢
  obtain ⟨S, r, n⟩ := st
  have hvn : vb + 2 * (i + 1) = vb + 2 * i + 2 := by omega
  generalize hv1 : vb + 2 * i = v1 at hvn ⊢
  dsimp only at hrl hok ⊢
  obtain ⟨al, hal⟩ : ∃ al, r ++ bf i = al := ⟨_, rfl⟩
  try simp only [keepL, setAll, push_cast, simprocAttr, kP, kB, kL, kL2, kS, kS2, kA, kAs, kc, hl1, List.set_set, List.length_set, prB, rowB, pS, u8l_len, Nat.sub_zero, Int.le_refl]
  refine AW.seq_k fun K hK => ?_
  refine AW.region (by decide) ?_
  simp only [push_cast, simprocAttr, kP, kB, kL, kL2, kS, kS2, kA, kAs, kc, hl1, List.set_set, List.length_set, prB, rowB, pS, u8l_len, Nat.sub_zero, Int.le_refl]
  refine Thn_n ?_
  refine hK _ _ ?_
  clear hK K
  refine AW.seq_k fun K hK => ?_
  refine AW.cond rfl (fun h11 => ?_) (fun h11 => ?_)
  · have hlt : i < np := by have := of_decide_eq_true h11; omega
    have c1 : (0 : Int) ≤ (i : Int) := by omega
    have c2 : (i : Int) < (np : Int) := by omega
    have hXi := hX i hlt
    refine AW.skip ?_
    refine Thn_n ?_
    refine hK _ _ ?_
    clear hK K
    refine AW.seq_k fun K hK => ?_
    refine AW.block ?_
    refine AW.seq_k fun K hK => ?_
    refine AW.region (by decide) ?_
    simp only [push_cast, simprocAttr, kP, kB, kL, kL2, kS, kS2, kA, kAs, kc, hl1, List.set_set, List.length_set, prB, rowB, pS, u8l_len, Nat.sub_zero, Int.le_refl, c1, c2, hXi]
    refine Thn_n ?_
    refine hK _ _ ?_
    clear hK K
    refine AW.seq_k fun K hK => ?_
    rcases hP i hlt with ⟨ec, eb⟩ | ⟨rb, k2, ty2, v2, ez2, off2, X2, ec, hrb, hb2, hf2, hx2⟩
    · have happ := hal
      have hal2 := congrArg List.length hal
      rw [List.length_append] at hal2
      obtain ⟨nn, hnn⟩ : ∃ nn, nn = IntKind.u64.wrap (n + ((bf i).length : Int)) := ⟨_, rfl⟩
      have hnn0 := hnn
      have hle := hbl i hlt
      have w1 : IntKind.u64.wrap (((bf i).length : Nat) : Int) = ((bf i).length : Int) := by rw [IntKind.wrap_u64]; omega
      have q1 : r.length + (bf i).length ≤ 140737488355328 := by omega
      have q2 : al.length ≤ 140737488355328 := by omega
      have hokA : U8ok al := by rw [← hal]; exact hok.app (hbo i hlt)
      have nb := hokA.by
      have hnnS := hnn.symm
      simp only [ec]
      rw [eb] at hal hal2 hnn
      rw [List.append_nil] at hal
      have hals := hal.symm
      subst hals
      have hz : IntKind.u64.wrap 0 = 0 := by decide
      have hnnS : IntKind.u64.wrap n = nn := by rw [hnn]; simp
      have q1 : al.length ≤ 140737488355328 := by omega
      have ha1 : u8l al ++ [] = u8l al := List.append_nil _
      
      iterate 2
        refine AW.region (by decide) ?_
        simp only [push_cast, simprocAttr, kP, kB, kL, kL2, kS, kS2, kA, kAs, kc, hl1, List.set_set, List.length_set, prB, rowB, pS, u8l_len, Nat.sub_zero, Int.le_refl, c1, c2, hXi, ha1, hz, hnnS, q1, Int.add_zero]
        refine Thn_n ?_
        refine hK _ _ ?_
        clear hK K
        refine AW.seq_k fun K hK => ?_
      refine AW.block ?_
      refine AW.loopK [0, 8, 9, 10] (fun j => 64 * j ≤ al.length) (fun j => []) (fun j => [(rp, ⟨.fix, 128, 0, 0, [.int .u32 ((compN S al j)).a, .int .u32 ((compN S al j)).b, .int .u32 ((compN S al j)).c, .int .u32 ((compN S al j)).d, .int .u32 ((compN S al j)).e, .int .u32 ((compN S al j)).f, .int .u32 ((compN S al j)).g, .int .u32 ((compN S al j)).h, (.sl bb (v1 + 1) (64 * j) (al.length - 64 * j)), .int .u64 nn]⟩)]) (fun j => al.length - 64 * j) 0 (by omega) ?_ ?_ fun j hi12 => ?_
      · first | rfl | (simp only [Keeps, Tm.get_cons, Nat.reduceEqDiff, ↓reduceIte, if_true, if_false, ite_true, ite_false, true_and, and_true, and_self, reduceCtorEq, compN, Nat.mul_zero, Nat.sub_zero] <;> rfl)
      · first | rfl | (simp only [setAll, push_cast, simprocAttr, kP, kB, kL, kL2, kS, kS2, kA, kAs, kc, hl1, List.set_set, List.length_set, prB, rowB, pS, u8l_len, Nat.sub_zero, Int.le_refl, c1, c2, hXi, ha1, hz, hnnS, q1, Int.add_zero, compN, Nat.mul_zero, Nat.sub_zero] <;> rfl)
      try simp only [keepL, setAll, push_cast, simprocAttr, kP, kB, kL, kL2, kS, kS2, kA, kAs, kc, hl1, List.set_set, List.length_set, prB, rowB, pS, u8l_len, Nat.sub_zero, Int.le_refl, c1, c2, hXi, ha1, hz, hnnS, q1, Int.add_zero]
      refine AW.seq_k fun K hK => ?_
      refine AW.seq_k fun K hK => ?_
      refine AW.region (by decide) ?_
      simp only [push_cast, simprocAttr, kP, kB, kL, kL2, kS, kS2, kA, kAs, kc, hl1, List.set_set, List.length_set, prB, rowB, pS, u8l_len, Nat.sub_zero, Int.le_refl, c1, c2, hXi, ha1, hz, hnnS, q1, Int.add_zero]
      refine Thn_n ?_
      refine hK _ _ ?_
      clear hK K
      refine AW.cond rfl (fun h38 => ?_) (fun h38 => ?_)
      · have hj : 64 ≤ al.length - 64 * j := by have := of_decide_eq_true h38; omega
        have c3 : (0 : Int) ≤ 64 := by omega
        have c4 : (64 : Int) ≤ ((al.length - 64 * j : Nat) : Int) := by omega
        have c5 : (((al.length - 64 * j : Nat) : Int)).toNat - 64 = al.length - 64 * j - 64 := by omega
        refine AW.skip ?_
        refine Thn_n ?_
        refine hK _ _ ?_
        clear hK K
        refine AW.seq_k fun K hK => ?_
        refine AW.block ?_
        refine AW.region (by decide) ?_
        simp only [push_cast, simprocAttr, kP, kB, kL, kL2, kS, kS2, kA, kAs, kc, hl1, List.set_set, List.length_set, prB, rowB, pS, u8l_len, Nat.sub_zero, Int.le_refl, c1, c2, hXi, ha1, hz, hnnS, q1, Int.add_zero, c3, c4, c5]
        refine CThen.by (stir_c rp (compN S al j) (.sl bb (v1 + 1) (64 * j) (al.length - 64 * j)) nn bb (v1 + 1) (64 * j) 64 al _ (kP _ _ (by rw [List.length_set])) (by simp only [CV.below, List.length_set]; exact decide_eq_true lbb) ⟨_, _, kB _ _ _ rfl⟩ (by omega) (by omega) (by omega) nb) ?_
        simp only [push_cast, simprocAttr, kP, kB, kL, kL2, kS, kS2, kA, kAs, kc, hl1, List.set_set, List.length_set, prB, rowB, pS, u8l_len, Nat.sub_zero, Int.le_refl, c1, c2, hXi, ha1, hz, hnnS, q1, Int.add_zero, c3, c4, c5]
        refine InB_n ?_
        refine Thn_n ?_
        refine hK _ _ ?_
        clear hK K
        refine AW.region (by decide) ?_
        simp only [push_cast, simprocAttr, kP, kB, kL, kL2, kS, kS2, kA, kAs, kc, hl1, List.set_set, List.length_set, prB, rowB, pS, u8l_len, Nat.sub_zero, Int.le_refl, c1, c2, hXi, ha1, hz, hnnS, q1, Int.add_zero, c3, c4, c5]
        refine Thn_n ?_
        have e1 : 64 * (j + 1) = 64 * j + 64 := by omega
        have e2 : al.length - (64 * j + 64) = al.length - 64 * j - 64 := by omega
        have e3 : compN S al (j + 1) = comp KW (compN S al j) al (64 * j) := rfl
        refine ⟨j + 1, by omega, by omega, ?_⟩
        try simp only [keepL, setAll, push_cast, simprocAttr, kP, kB, kL, kL2, kS, kS2, kA, kAs, kc, hl1, List.set_set, List.length_set, prB, rowB, pS, u8l_len, Nat.sub_zero, Int.le_refl, c1, c2, hXi, ha1, hz, hnnS, q1, Int.add_zero, c3, c4, c5, e1, e2, e3]
        exact Weak.same (by simp only [Keeps, Tm.get_cons, Nat.reduceEqDiff, ↓reduceIte, if_true, if_false, ite_true, ite_false, true_and, and_true, and_self, reduceCtorEq, e1, e2, e3]) (by first | rfl | simp only [Keeps, Tm.get_cons, Nat.reduceEqDiff, ↓reduceIte, if_true, if_false, ite_true, ite_false, true_and, and_true, and_self, reduceCtorEq, e1, e2, e3])
      · have hj : al.length - 64 * j < 64 := by have := of_decide_eq_false h38; omega
        have hje : j = al.length / 64 := by omega
        have g1 : (u8l al).drop (64 * j) = u8l (al.drop (64 * j)) := u8l_drop _ _
        have g2 : (u8l (al.drop (64 * j))).take (al.length - 64 * j) = u8l (al.drop (64 * j)) := List.take_of_length_le (by rw [u8l_len, List.length_drop]; exact Nat.le_refl _)
        have g3 : 64 * j + (al.length - 64 * j) ≤ al.length := by omega
        have g4 : al.length - 64 * j ≤ 140737488355328 := by omega
        have g5 := u8l_vals (al.drop (64 * j))
        have g6 := u8l_len (al.drop (64 * j))
        refine AW.exit ?_
        refine Thn_e ?_
        clear hK K
        refine Thn_e ?_
        refine InB_here ?_
        refine Thn_n ?_
        refine hK _ _ ?_
        clear hK K
        refine AW.region (by decide) ?_
        simp only [push_cast, simprocAttr, kP, kB, kL, kL2, kS, kS2, kA, kAs, kc, hl1, List.set_set, List.length_set, prB, rowB, pS, u8l_len, Nat.sub_zero, Int.le_refl, c1, c2, hXi, ha1, hz, hnnS, q1, Int.add_zero, g1, g2, g3, g4, g5, g6]
        refine InB_n ?_
        refine Thn_n ?_
        refine hK _ _ ?_
        clear hK K
        refine AW.moveC bb m.length 60 (al.length - 64 * j) rp 8 (b := rowB (v1 + 1) al) (e := ⟨.grow, 5, 1, 1, u8l (al.drop (64 * j))⟩) (by simp only [push_cast, simprocAttr, kP, kB, kL, kL2, kS, kS2, kA, kAs, kc, hl1, List.set_set, List.length_set, rowB]) rfl (by simp only [push_cast, simprocAttr, kP, kB, kL, kL2, kS, kS2, kA, kAs, kc, hl1, List.set_set, List.length_set]) rfl (by omega) (by simp only [push_cast, simprocAttr]) (p := ⟨.fix, 128, 0, 0, [.int .u32 ((compN S al j)).a, .int .u32 ((compN S al j)).b, .int .u32 ((compN S al j)).c, .int .u32 ((compN S al j)).d, .int .u32 ((compN S al j)).e, .int .u32 ((compN S al j)).f, .int .u32 ((compN S al j)).g, .int .u32 ((compN S al j)).h, (.sl m.length 1 0 (al.length - 64 * j)), .int .u64 nn]⟩) (by simp only [push_cast, simprocAttr, kP, kB, kL, kL2, kS, kS2, kA, kAs, kc, hl1, List.set_set, List.length_set]) (by simp) npb (by omega) rfl ?_
        simp only [push_cast, simprocAttr, kP, kB, kL, kL2, kS, kS2, kA, kAs, kc, hl1, List.set_set, List.length_set, rowB]
        refine AW.region (by decide) ?_
        simp only [push_cast, simprocAttr, kP, kB, kL, kL2, kS, kS2, kA, kAs, kc, hl1, List.set_set, List.length_set, prB, rowB, pS, u8l_len, Nat.sub_zero, Int.le_refl, c1, c2, hXi, ha1, hz, hnnS, q1, Int.add_zero, g1, g2, g3, g4, g5, g6]
        refine Thn_n ?_
        have hwi : IntKind.i64.wrap ((i:Int)+1) = (i:Int)+1 := wi (by omega)
        have hres : accP s0 bf (i + 1) = ⟨compN S al j, al.drop (64 * j), nn⟩ := by rw [hnx]; simp only [absS, happ, ← hje, ← hnn0]
        have hdl : (al.drop (64 * j)).length = al.length - 64 * j := List.length_drop
        refine ⟨i + 1, by omega, by omega, ?_⟩
        try simp only [keepL, setAll, push_cast, simprocAttr, kP, kB, kL, kL2, kS, kS2, kA, kAs, kc, hl1, List.set_set, List.length_set, prB, rowB, pS, u8l_len, Nat.sub_zero, Int.le_refl, c1, c2, hXi, ha1, hz, hnnS, q1, Int.add_zero, g1, g2, g3, g4, g5, g6, hwi, hvn, hres, hdl]
        exact Weak.to (extra := [_]) (by simp only [Keeps, Tm.get_cons, Nat.reduceEqDiff, ↓reduceIte, if_true, if_false, ite_true, ite_false, true_and, and_true, and_self, reduceCtorEq, hwi, hvn, hres, hdl]) (by first | rfl | (simp only [List.append_assoc, List.cons_append, List.nil_append]; rfl)) (by first | rfl | (simp [AV.below, CV.below]; done) | (simp [AV.below, CV.below]; omega)) (by simp only [List.length_set]; refine MWf_set (MWf_set hwf (u8l_below _ _)) ?_; simp [CV.below, lbb])
    · have happ := hal
      have hal2 := congrArg List.length hal
      rw [List.length_append] at hal2
      obtain ⟨nn, hnn⟩ : ∃ nn, nn = IntKind.u64.wrap (n + ((bf i).length : Int)) := ⟨_, rfl⟩
      have hnn0 := hnn
      have hle := hbl i hlt
      have w1 : IntKind.u64.wrap (((bf i).length : Nat) : Int) = ((bf i).length : Int) := by rw [IntKind.wrap_u64]; omega
      have q1 : r.length + (bf i).length ≤ 140737488355328 := by omega
      have q2 : al.length ≤ 140737488355328 := by omega
      have hokA : U8ok al := by rw [← hal]; exact hok.app (hbo i hlt)
      have nb := hokA.by
      have hnnS := hnn.symm
      have nrp : rb ≠ rp := fun e => by
        subst e; rw [hp] at hb2; simp only [prB, Option.some.injEq, Blk.mk.injEq] at hb2
        have := hb2.2.2.2.2
        cases X2 with
        | nil => simp [u8l] at this
        | cons x xs => simp [u8l] at this
      simp only [ec]
      have hb3 := fun (A B : Blk) => (kO rb m A B hrb nrp).trans hb2
      have ha1 : u8l r ++ ((u8l X2).drop off2).take (bf i).length = u8l al := by rw [u8l_drop, u8l_take, hx2, u8l_app, hal]
      have ha2 : off2 + (bf i).length ≤ X2.length := hf2
      have ha3 : (((u8l X2).drop off2).take (bf i).length).all CV.isVal = true := by rw [u8l_drop, u8l_take]; exact u8l_vals _
      
      iterate 2
        refine AW.region (by decide) ?_
        simp only [push_cast, simprocAttr, kP, kB, kL, kL2, kS, kS2, kA, kAs, kc, hl1, List.set_set, List.length_set, prB, rowB, pS, u8l_len, Nat.sub_zero, Int.le_refl, c1, c2, hXi, hb3, ha1, ha2, ha3, w1, q1, q2, hnnS, hal2]
        refine Thn_n ?_
        refine hK _ _ ?_
        clear hK K
        refine AW.seq_k fun K hK => ?_
      refine AW.block ?_
      refine AW.loopK [0, 8, 9, 10] (fun j => 64 * j ≤ al.length) (fun j => []) (fun j => [(rp, ⟨.fix, 128, 0, 0, [.int .u32 ((compN S al j)).a, .int .u32 ((compN S al j)).b, .int .u32 ((compN S al j)).c, .int .u32 ((compN S al j)).d, .int .u32 ((compN S al j)).e, .int .u32 ((compN S al j)).f, .int .u32 ((compN S al j)).g, .int .u32 ((compN S al j)).h, (.sl bb (v1 + 1) (64 * j) (al.length - 64 * j)), .int .u64 nn]⟩)]) (fun j => al.length - 64 * j) 0 (by omega) ?_ ?_ fun j hi18 => ?_
      · first | rfl | (simp only [Keeps, Tm.get_cons, Nat.reduceEqDiff, ↓reduceIte, if_true, if_false, ite_true, ite_false, true_and, and_true, and_self, reduceCtorEq, compN, Nat.mul_zero, Nat.sub_zero] <;> rfl)
      · first | rfl | (simp only [setAll, push_cast, simprocAttr, kP, kB, kL, kL2, kS, kS2, kA, kAs, kc, hl1, List.set_set, List.length_set, prB, rowB, pS, u8l_len, Nat.sub_zero, Int.le_refl, c1, c2, hXi, hb3, ha1, ha2, ha3, w1, q1, q2, hnnS, hal2, compN, Nat.mul_zero, Nat.sub_zero] <;> rfl)
      try simp only [keepL, setAll, push_cast, simprocAttr, kP, kB, kL, kL2, kS, kS2, kA, kAs, kc, hl1, List.set_set, List.length_set, prB, rowB, pS, u8l_len, Nat.sub_zero, Int.le_refl, c1, c2, hXi, hb3, ha1, ha2, ha3, w1, q1, q2, hnnS, hal2]
      refine AW.seq_k fun K hK => ?_
      refine AW.seq_k fun K hK => ?_
      refine AW.region (by decide) ?_
      simp only [push_cast, simprocAttr, kP, kB, kL, kL2, kS, kS2, kA, kAs, kc, hl1, List.set_set, List.length_set, prB, rowB, pS, u8l_len, Nat.sub_zero, Int.le_refl, c1, c2, hXi, hb3, ha1, ha2, ha3, w1, q1, q2, hnnS, hal2]
      refine Thn_n ?_
      refine hK _ _ ?_
      clear hK K
      refine AW.cond rfl (fun h38 => ?_) (fun h38 => ?_)
      · have hj : 64 ≤ al.length - 64 * j := by have := of_decide_eq_true h38; omega
        have c3 : (0 : Int) ≤ 64 := by omega
        have c4 : (64 : Int) ≤ ((al.length - 64 * j : Nat) : Int) := by omega
        have c5 : (((al.length - 64 * j : Nat) : Int)).toNat - 64 = al.length - 64 * j - 64 := by omega
        refine AW.skip ?_
        refine Thn_n ?_
        refine hK _ _ ?_
        clear hK K
        refine AW.seq_k fun K hK => ?_
        refine AW.block ?_
        refine AW.region (by decide) ?_
        simp only [push_cast, simprocAttr, kP, kB, kL, kL2, kS, kS2, kA, kAs, kc, hl1, List.set_set, List.length_set, prB, rowB, pS, u8l_len, Nat.sub_zero, Int.le_refl, c1, c2, hXi, hb3, ha1, ha2, ha3, w1, q1, q2, hnnS, hal2, c3, c4, c5]
        refine CThen.by (stir_c rp (compN S al j) (.sl bb (v1 + 1) (64 * j) (al.length - 64 * j)) nn bb (v1 + 1) (64 * j) 64 al _ (kP _ _ (by rw [List.length_set])) (by simp only [CV.below, List.length_set]; exact decide_eq_true lbb) ⟨_, _, kB _ _ _ rfl⟩ (by omega) (by omega) (by omega) nb) ?_
        simp only [push_cast, simprocAttr, kP, kB, kL, kL2, kS, kS2, kA, kAs, kc, hl1, List.set_set, List.length_set, prB, rowB, pS, u8l_len, Nat.sub_zero, Int.le_refl, c1, c2, hXi, hb3, ha1, ha2, ha3, w1, q1, q2, hnnS, hal2, c3, c4, c5]
        refine InB_n ?_
        refine Thn_n ?_
        refine hK _ _ ?_
        clear hK K
        refine AW.region (by decide) ?_
        simp only [push_cast, simprocAttr, kP, kB, kL, kL2, kS, kS2, kA, kAs, kc, hl1, List.set_set, List.length_set, prB, rowB, pS, u8l_len, Nat.sub_zero, Int.le_refl, c1, c2, hXi, hb3, ha1, ha2, ha3, w1, q1, q2, hnnS, hal2, c3, c4, c5]
        refine Thn_n ?_
        have e1 : 64 * (j + 1) = 64 * j + 64 := by omega
        have e2 : al.length - (64 * j + 64) = al.length - 64 * j - 64 := by omega
        have e3 : compN S al (j + 1) = comp KW (compN S al j) al (64 * j) := rfl
        refine ⟨j + 1, by omega, by omega, ?_⟩
        try simp only [keepL, setAll, push_cast, simprocAttr, kP, kB, kL, kL2, kS, kS2, kA, kAs, kc, hl1, List.set_set, List.length_set, prB, rowB, pS, u8l_len, Nat.sub_zero, Int.le_refl, c1, c2, hXi, hb3, ha1, ha2, ha3, w1, q1, q2, hnnS, hal2, c3, c4, c5, e1, e2, e3]
        exact Weak.same (by simp only [Keeps, Tm.get_cons, Nat.reduceEqDiff, ↓reduceIte, if_true, if_false, ite_true, ite_false, true_and, and_true, and_self, reduceCtorEq, e1, e2, e3]) (by first | rfl | simp only [Keeps, Tm.get_cons, Nat.reduceEqDiff, ↓reduceIte, if_true, if_false, ite_true, ite_false, true_and, and_true, and_self, reduceCtorEq, e1, e2, e3])
      · have hj : al.length - 64 * j < 64 := by have := of_decide_eq_false h38; omega
        have hje : j = al.length / 64 := by omega
        have g1 : (u8l al).drop (64 * j) = u8l (al.drop (64 * j)) := u8l_drop _ _
        have g2 : (u8l (al.drop (64 * j))).take (al.length - 64 * j) = u8l (al.drop (64 * j)) := List.take_of_length_le (by rw [u8l_len, List.length_drop]; exact Nat.le_refl _)
        have g3 : 64 * j + (al.length - 64 * j) ≤ al.length := by omega
        have g4 : al.length - 64 * j ≤ 140737488355328 := by omega
        have g5 := u8l_vals (al.drop (64 * j))
        have g6 := u8l_len (al.drop (64 * j))
        refine AW.exit ?_
        refine Thn_e ?_
        clear hK K
        refine Thn_e ?_
        refine InB_here ?_
        refine Thn_n ?_
        refine hK _ _ ?_
        clear hK K
        refine AW.region (by decide) ?_
        simp only [push_cast, simprocAttr, kP, kB, kL, kL2, kS, kS2, kA, kAs, kc, hl1, List.set_set, List.length_set, prB, rowB, pS, u8l_len, Nat.sub_zero, Int.le_refl, c1, c2, hXi, hb3, ha1, ha2, ha3, w1, q1, q2, hnnS, hal2, g1, g2, g3, g4, g5, g6]
        refine InB_n ?_
        refine Thn_n ?_
        refine hK _ _ ?_
        clear hK K
        refine AW.moveC bb m.length 60 (al.length - 64 * j) rp 8 (b := rowB (v1 + 1) al) (e := ⟨.grow, 5, 1, 1, u8l (al.drop (64 * j))⟩) (by simp only [push_cast, simprocAttr, kP, kB, kL, kL2, kS, kS2, kA, kAs, kc, hl1, List.set_set, List.length_set, rowB]) rfl (by simp only [push_cast, simprocAttr, kP, kB, kL, kL2, kS, kS2, kA, kAs, kc, hl1, List.set_set, List.length_set]) rfl (by omega) (by simp only [push_cast, simprocAttr]) (p := ⟨.fix, 128, 0, 0, [.int .u32 ((compN S al j)).a, .int .u32 ((compN S al j)).b, .int .u32 ((compN S al j)).c, .int .u32 ((compN S al j)).d, .int .u32 ((compN S al j)).e, .int .u32 ((compN S al j)).f, .int .u32 ((compN S al j)).g, .int .u32 ((compN S al j)).h, (.sl m.length 1 0 (al.length - 64 * j)), .int .u64 nn]⟩) (by simp only [push_cast, simprocAttr, kP, kB, kL, kL2, kS, kS2, kA, kAs, kc, hl1, List.set_set, List.length_set]) (by simp) npb (by omega) rfl ?_
        simp only [push_cast, simprocAttr, kP, kB, kL, kL2, kS, kS2, kA, kAs, kc, hl1, List.set_set, List.length_set, rowB]
        refine AW.region (by decide) ?_
        simp only [push_cast, simprocAttr, kP, kB, kL, kL2, kS, kS2, kA, kAs, kc, hl1, List.set_set, List.length_set, prB, rowB, pS, u8l_len, Nat.sub_zero, Int.le_refl, c1, c2, hXi, hb3, ha1, ha2, ha3, w1, q1, q2, hnnS, hal2, g1, g2, g3, g4, g5, g6]
        refine Thn_n ?_
        have hwi : IntKind.i64.wrap ((i:Int)+1) = (i:Int)+1 := wi (by omega)
        have hres : accP s0 bf (i + 1) = ⟨compN S al j, al.drop (64 * j), nn⟩ := by rw [hnx]; simp only [absS, happ, ← hje, ← hnn0]
        have hdl : (al.drop (64 * j)).length = al.length - 64 * j := List.length_drop
        refine ⟨i + 1, by omega, by omega, ?_⟩
        try simp only [keepL, setAll, push_cast, simprocAttr, kP, kB, kL, kL2, kS, kS2, kA, kAs, kc, hl1, List.set_set, List.length_set, prB, rowB, pS, u8l_len, Nat.sub_zero, Int.le_refl, c1, c2, hXi, hb3, ha1, ha2, ha3, w1, q1, q2, hnnS, hal2, g1, g2, g3, g4, g5, g6, hwi, hvn, hres, hdl]
        exact Weak.to (extra := [_]) (by simp only [Keeps, Tm.get_cons, Nat.reduceEqDiff, ↓reduceIte, if_true, if_false, ite_true, ite_false, true_and, and_true, and_self, reduceCtorEq, hwi, hvn, hres, hdl]) (by first | rfl | (simp only [List.append_assoc, List.cons_append, List.nil_append]; rfl)) (by first | rfl | (simp [AV.below, CV.below]; done) | (simp [AV.below, CV.below]; omega)) (by simp only [List.length_set]; refine MWf_set (MWf_set hwf (u8l_below _ _)) ?_; simp [CV.below, lbb])
  · have hin : i = np := by have := of_decide_eq_false h11; omega
    subst hin
    refine AW.exit ?_
    refine Thn_e ?_
    clear hK K
    refine Thn_e ?_
    refine InB_here ?_
    refine hQ _ _ _ ?_
    rw [hv1, hst]
    first | refine RetP.dropM0 (pwr_len m rp bb _ _) (Or.inl rfl) ?_ ?_ (pwr_wf rp bb _ _ hwf lbb) | refine RetP.dropM (m1 := pwr m rp bb _ _) (pwr_len m rp bb _ _) (Or.inl rfl) ?_ ?_ (pwr_wf rp bb _ _ hwf lbb)
    · rfl
    · rfl
    
end Go.Proofs.Ytdkfbbjpblfclaa

set_option linter.unusedSimpArgs false
set_option linter.unusedVariables false
set_option maxRecDepth 100000
set_option maxHeartbeats 4000000
namespace Go.Proofs.Ytdkfbbjpblfclaa
open Go Go.Eng

def padz (n : Nat) : Nat := (119 - n % 64) % 64
theorem padz_ok (n : Nat) : (n + 1 + padz n) % 64 = 56 := by unfold padz; omega
theorem padz_eq {n j : Nat} (h : j ≤ padz n) (h2 : (n + 1 + j) % 64 = 56) : j = padz n := by unfold padz at *; omega
theorem padz_le (n : Nat) : padz n < 64 := by unfold padz; omega
def hiW (n : Int) : Int := IntKind.u32.wrap ((IntKind.u64.wrap (8 * n)).fdiv 4294967296)
def loW (n : Int) : Int := IntKind.u32.wrap (IntKind.u64.wrap (8 * n))
def padL (r : List Int) (j : Nat) : List Int := r ++ 128 :: List.replicate j 0
def lastL (s : PS) : List Int := padL s.r (padz s.r.length) ++ fourL (hiW s.n) ++ fourL (loW s.n)
theorem padL_len (r : List Int) (j : Nat) : (padL r j).length = r.length + 1 + j := by simp [padL]; omega
theorem lastL_len (s : PS) : (lastL s).length = s.r.length + 1 + padz s.r.length + 8 := by simp only [lastL, List.length_append, padL_len]; rfl
theorem fourL_ok (n : Int) : U8ok (fourL n) := fun x hx => by
  simp only [fourL, List.mem_cons, List.not_mem_nil, or_false] at hx
  rcases hx with rfl | rfl | rfl | rfl <;> (rw [w8]; omega)
theorem padL_ok {r : List Int} (h : U8ok r) (j : Nat) : U8ok (padL r j) := h.app fun x hx => by
  rcases List.mem_cons.1 hx with rfl | hx
  · omega
  · obtain ⟨_, rfl⟩ := List.mem_replicate.1 hx; omega
theorem lastL_ok {s : PS} (h : U8ok s.r) : U8ok (lastL s) := ((padL_ok h _).app (fourL_ok _)).app (fourL_ok _)
def finS (s : PS) : S8 := compN s.S (lastL s) ((lastL s).length / 64)
def digL (S : S8) : List Int := fourL S.a ++ fourL S.b ++ fourL S.c ++ fourL S.d ++ fourL S.e ++ fourL S.f ++ fourL S.g ++ fourL S.h
def dP (S : S8) (i : Nat) : List Int := (digL S).take (4 * i) ++ List.replicate (32 - 4 * i) 0
def hS (S : S8) : List CV := [.int .u32 S.a, .int .u32 S.b, .int .u32 S.c, .int .u32 S.d, .int .u32 S.e, .int .u32 S.f, .int .u32 S.g, .int .u32 S.h]
def hF (S : S8) : Nat → Int
  | 0 => S.a | 1 => S.b | 2 => S.c | 3 => S.d | 4 => S.e | 5 => S.f | 6 => S.g | _ => S.h
theorem hS_get (S : S8) : ∀ {i : Nat}, i < 8 → (hS S)[i]? = some (.int .u32 (hF S i))
  | 0, _ => rfl | 1, _ => rfl | 2, _ => rfl | 3, _ => rfl | 4, _ => rfl | 5, _ => rfl | 6, _ => rfl | 7, _ => rfl
  | n + 8, h => by omega
theorem dP_succ (S : S8) : ∀ {i : Nat}, i < 8 → setL (u8l (dP S i)) (4 * i) (u8l (fourL (hF S i))) = u8l (dP S (i + 1))
  | 0, _ => rfl | 1, _ => rfl | 2, _ => rfl | 3, _ => rfl | 4, _ => rfl | 5, _ => rfl | 6, _ => rfl | 7, _ => rfl
  | n + 8, h => by omega
theorem dP_len (S : S8) {i : Nat} (h : i ≤ 8) : (dP S i).length = 32 := by
  have : (digL S).length = 32 := rfl
  simp only [dP, List.length_append, List.length_take, List.length_replicate, this]; omega
theorem padL_succ (r : List Int) (j : Nat) : u8l (padL r j) ++ [.int .u8 0] = u8l (padL r (j + 1)) := by
  simp [u8l, padL, List.replicate_succ']
theorem padL_zero (r : List Int) : u8l r ++ [.int .u8 128] = u8l (padL r 0) := by simp [u8l, padL]

theorem sum_c (rp bb vb : Nat) (s : PS) (m : AMem) (hp : m[rp]? = some (prB s.S (.sl bb vb 0 s.r.length) s.n)) (hbb : m[bb]? = some (rowB vb s.r)) (hr0 : s.r.length < 64) (ho0 : U8ok s.r) : Ctr Try.prog 54 [.one (.ptr rp 0 0)] m (.agg (u8l (digL (finS s)))) m := by
  refine Ctr.enter Try.func54 rfl (by decide) (rs := [.cell 2 38]) (nt := 73) rfl rfl fun hwf Q hQ => ?_
  obtain ⟨S, r, n⟩ := s
  dsimp only at hp hbb hr0 ho0 ⊢
  have lp := get_lt hp
  have lbb := get_lt hbb
  have ha1 := u8l_len r
  have ha2 := u8l_vals r
  have ha3 : (u8l r).take r.length = u8l r := List.take_of_length_le (by rw [u8l_len]; exact Nat.le_refl _)
  have ha4 : r.length ≤ 140737488355328 := by omega
  have ha5 : r.length + 1 ≤ 140737488355328 := by omega
  have hz0 := padL_zero r
  have q1 : (2:Int) ^ min 32 IntKind.u64.bits = 4294967296 := by decide
  have hll := lastL_len ⟨S, r, n⟩
  have hpz := padz_le r.length
  have hpl0 : (padL r 0).length = r.length + 1 := padL_len r 0
  have hpo := padz_ok r.length
  dsimp only at hll
  obtain ⟨la, hla⟩ : ∃ la, lastL ⟨S, r, n⟩ = la := ⟨_, rfl⟩
  have hok : U8ok la := by rw [← hla]; exact lastL_ok ho0
  have nb := hok.by
  rw [hla] at hll
  have hfin : finS ⟨S, r, n⟩ = compN S la (la.length / 64) := by unfold finS; rw [hla]
  have hlc : u8l (padL r (padz r.length)) ++ u8l (fourL (hiW n)) ++ u8l (fourL (loW n)) = u8l la := by rw [← hla, u8l_app, u8l_app]; rfl
  have hlc2 : u8l (padL r (padz r.length)) ++ (u8l (fourL (hiW n)) ++ u8l (fourL (loW n))) = u8l la := by rw [← List.append_assoc]; exact hlc
  have hhi : IntKind.u32.wrap ((IntKind.u64.wrap (8 * n)).fdiv 4294967296) = hiW n := rfl
  have hlo : IntKind.u32.wrap (IntKind.u64.wrap (8 * n)) = loW n := rfl
  have hfx : ∀ x, u8l (fourL x) = [.int .u8 (IntKind.u8.wrap (x.fdiv 16777216)), .int .u8 (IntKind.u8.wrap (x.fdiv 65536)), .int .u8 (IntKind.u8.wrap (x.fdiv 256)), .int .u8 (IntKind.u8.wrap x)] := fun x => rfl
  have mn4 : min 4 4 = 4 := rfl
  have mn8 : min 4 8 = 4 := rfl
  have mn12 : min 4 12 = 4 := rfl
  have mn16 : min 4 16 = 4 := rfl
  have mn20 : min 4 20 = 4 := rfl
  have mn24 : min 4 24 = 4 := rfl
  have mn28 : min 4 28 = 4 := rfl
  have mn32 : min 4 32 = 4 := rfl
  have f1 : ∀ x, (u8l (fourL x)).take 4 = u8l (fourL x) := fun x => rfl
  have f2 : ∀ x, (u8l (fourL x)).length = 4 := fun x => rfl
  have f3 : ∀ x, (u8l (fourL x)).all CV.isVal = true := fun x => u8l_vals _
  
  refine AW.seq_k fun K hK => ?_
  refine AW.region (by decide) ?_
  simp only [push_cast, simprocAttr, hp, lk_old hp, hbb, lk_old hbb, prB, rowB, pS, u8l_len, Nat.sub_zero, Int.le_refl, ha1, ha2, ha3, ha4, ha5, hz0, q1, hhi, hlo, f1, f2, f3]
  refine Thn_n ?_
  refine hK _ _ ?_
  clear hK K
  refine AW.seq_k fun K hK => ?_
  refine AW.seq_k fun K hK => ?_
  refine AW.region (by decide) ?_
  simp only [push_cast, simprocAttr, hp, lk_old hp, hbb, lk_old hbb, prB, rowB, pS, u8l_len, Nat.sub_zero, Int.le_refl, ha1, ha2, ha3, ha4, ha5, hz0, q1, hhi, hlo, f1, f2, f3]
  refine Thn_n ?_
  refine hK _ _ ?_
  clear hK K
  refine AW.cond_f rfl ?_
  refine AW.skip ?_
  refine Thn_n ?_
  refine hK _ _ ?_
  clear hK K
  refine AW.seq_k fun K hK => ?_
  refine AW.draw [.val, .val, .val, .rd 0, .ext, .val, .val, .val, .rd 0, .up 0, .val, .fl, .wr] fol (by decide) (by kernel_rfl) ?_
  simp only [push_cast, simprocAttr, hp, lk_old hp, hbb, lk_old hbb, prB, rowB, pS, u8l_len, Nat.sub_zero, Int.le_refl, ha1, ha2, ha3, ha4, ha5, hz0, q1, hhi, hlo, f1, f2, f3]
  refine DExt.by (by first | rfl | exact (List.append_nil _).symm | (simp only [List.append_assoc, List.cons_append, List.nil_append]; rfl)) ?_
  simp only [push_cast, simprocAttr, hp, lk_old hp, hbb, lk_old hbb, prB, rowB, pS, u8l_len, Nat.sub_zero, Int.le_refl, ha1, ha2, ha3, ha4, ha5, hz0, q1, hhi, hlo, f1, f2, f3]
  refine DUp.by (by first | rfl | (simp only [List.append_assoc, List.cons_append, List.nil_append]; rfl)) (by first | rfl | (simp only [List.append_assoc, List.cons_append, List.nil_append]; rfl)) ?_
  simp only [push_cast, simprocAttr, hp, lk_old hp, hbb, lk_old hbb, prB, rowB, pS, u8l_len, Nat.sub_zero, Int.le_refl, ha1, ha2, ha3, ha4, ha5, hz0, q1, hhi, hlo, f1, f2, f3]
  refine Thn_n ?_
  refine hK _ _ ?_
  clear hK K
  refine AW.seq_k fun K hK => ?_
  refine AW.region (by decide) ?_
  simp only [push_cast, simprocAttr, hp, lk_old hp, hbb, lk_old hbb, prB, rowB, pS, u8l_len, Nat.sub_zero, Int.le_refl, ha1, ha2, ha3, ha4, ha5, hz0, q1, hhi, hlo, f1, f2, f3]
  refine Thn_n ?_
  refine hK _ _ ?_
  clear hK K
  refine AW.seq_k fun K hK => ?_
  refine AW.block ?_
  refine AW.loopK [0, 2, 3] (fun j => j ≤ padz r.length) (fun j => [(4, .one (.sl (m.length + 1) (2 + j) 0 (padL r j).length))]) (fun j => [(m.length + 1, ⟨.grow, 5, 2 + j, 1, u8l (padL r j)⟩)]) (fun j => padz r.length - j) 0 (by omega) ?_ ?_ fun j hi7 => ?_
  · first | rfl | (simp only [Keeps, Tm.get_cons, Nat.reduceEqDiff, ↓reduceIte, if_true, if_false, ite_true, ite_false, true_and, and_true, and_self, reduceCtorEq, hpl0] <;> rfl)
  · first | rfl | (simp only [setAll, push_cast, simprocAttr, hp, lk_old hp, hbb, lk_old hbb, prB, rowB, pS, u8l_len, Nat.sub_zero, Int.le_refl, ha1, ha2, ha3, ha4, ha5, hz0, q1, hhi, hlo, f1, f2, f3, hpl0] <;> rfl)
  have hi : j ≤ padz r.length := hi7
  have hpl := padL_len r j
  have hpl2 : (padL r (j + 1)).length = (padL r j).length + 1 := by rw [padL_len, padL_len]; omega
  have hsn := padL_succ r j
  have hpm : (((padL r j).length : Nat) : Int).tmod 64 = (((padL r j).length % 64 : Nat) : Int) := rfl
  have q3 : (padL r j).length ≤ 140737488355328 := by omega
  have q4 : (padL r j).length + 1 ≤ 140737488355328 := by omega
  try simp only [keepL, setAll, push_cast, simprocAttr, hp, lk_old hp, hbb, lk_old hbb, prB, rowB, pS, u8l_len, Nat.sub_zero, Int.le_refl, ha1, ha2, ha3, ha4, ha5, hz0, q1, hhi, hlo, f1, f2, f3]
  refine AW.seq_k fun K hK => ?_
  refine AW.seq_k fun K hK => ?_
  refine AW.region (by decide) ?_
  simp only [push_cast, simprocAttr, hp, lk_old hp, hbb, lk_old hbb, prB, rowB, pS, u8l_len, Nat.sub_zero, Int.le_refl, ha1, ha2, ha3, ha4, ha5, hz0, q1, hhi, hlo, f1, f2, f3]
  refine Thn_n ?_
  refine hK _ _ ?_
  clear hK K
  refine AW.cond rfl (fun h29 => ?_) (fun h29 => ?_)
  · have hlt : j < padz r.length := by
      have h1 : (padL r j).length % 64 ≠ 56 := fun e => by
        rw [hpm, e] at h29; exact absurd h29 (by decide)
      have : j ≠ padz r.length := fun e => by subst e; exact h1 (by rw [hpl]; exact hpo)
      omega
    refine AW.skip ?_
    refine Thn_n ?_
    refine hK _ _ ?_
    clear hK K
    refine AW.block ?_
    refine AW.region (by decide) ?_
    simp only [push_cast, simprocAttr, hp, lk_old hp, hbb, lk_old hbb, prB, rowB, pS, u8l_len, Nat.sub_zero, Int.le_refl, ha1, ha2, ha3, ha4, ha5, hz0, q1, hhi, hlo, f1, f2, f3, hsn, q3, q4]
    refine InB_n ?_
    refine Thn_n ?_
    refine ⟨j + 1, hlt, by omega, ?_⟩
    try simp only [keepL, setAll, push_cast, simprocAttr, hp, lk_old hp, hbb, lk_old hbb, prB, rowB, pS, u8l_len, Nat.sub_zero, Int.le_refl, ha1, ha2, ha3, ha4, ha5, hz0, q1, hhi, hlo, f1, f2, f3, hsn, q3, q4, hpl2]
    exact Weak.to (extra := [_]) (by simp only [Keeps, Tm.get_cons, Nat.reduceEqDiff, ↓reduceIte, if_true, if_false, ite_true, ite_false, true_and, and_true, and_self, reduceCtorEq, hpl2]) (by first | rfl | (simp only [List.append_assoc, List.cons_append, List.nil_append]; rfl)) (by first | rfl | (simp [AV.below, CV.below, u8l_below]; done) | (simp [AV.below, CV.below, u8l_below]; omega)) (by
      first | exact hwf | refine MWf.app (hwf.grow (by simp)) ?_
      repeat (first | exact MWf_nil | (refine MWf_cons ?_ ?_; · first | rfl | (simp [CV.below, u8l_below]; done) | (simp [CV.below, u8l_below]; omega))))
  · have hje : j = padz r.length := by
      refine padz_eq hi (Decidable.byContradiction fun h1 => ?_)
      rw [← hpl] at h1; rw [hpm] at h29
      simp at h29; omega
    subst hje
    have n1 : (padL r (padz r.length)).length + 4 ≤ 140737488355328 := by omega
    have n2 : (padL r (padz r.length)).length + 8 ≤ 140737488355328 := by omega
    have n3 : (padL r (padz r.length)).length + 8 = la.length := by omega
    have n4 : la.length ≤ 140737488355328 := by omega
    refine AW.exit ?_
    refine Thn_e ?_
    clear hK K
    refine Thn_e ?_
    refine InB_here ?_
    refine Thn_n ?_
    refine hK _ _ ?_
    clear hK K
    refine AW.seq_k fun K hK => ?_
    refine AW.draw [.val, .val, .val, .val, .rd 0, .val, .val, .val, .ext, .wr, .val, .val, .val, .rw 0, .val, .val, .ext, .wr, .val] fol (by decide) (by kernel_rfl) ?_
    iterate 2
      simp only [push_cast, simprocAttr, hp, lk_old hp, hbb, lk_old hbb, prB, rowB, pS, u8l_len, Nat.sub_zero, Int.le_refl, ha1, ha2, ha3, ha4, ha5, hz0, q1, hhi, hlo, f1, f2, f3, q3, q4, n1, n2, n3, n4, hlc, hlc2]
      refine DCall.by (four_c _ _) ?_
    simp only [push_cast, simprocAttr, hp, lk_old hp, hbb, lk_old hbb, prB, rowB, pS, u8l_len, Nat.sub_zero, Int.le_refl, ha1, ha2, ha3, ha4, ha5, hz0, q1, hhi, hlo, f1, f2, f3, q3, q4, n1, n2, n3, n4, hlc, hlc2]
    try refine AOpsD_end (by simp only [watchS, allAt, push_cast, simprocAttr, hp, lk_old hp, hbb, lk_old hbb, prB, rowB, pS, u8l_len, Nat.sub_zero, Int.le_refl, ha1, ha2, ha3, ha4, ha5, hz0, q1, hhi, hlo, f1, f2, f3, q3, q4, n1, n2, n3, n4, hlc, hlc2]) ?_
    refine Thn_n ?_
    refine hK _ _ ?_
    clear hK K
    refine AW.seq_k fun K hK => ?_
    refine AW.block ?_
    refine AW.loopK [2, 3] (fun j => 64 * j ≤ la.length) (fun j => [(4, .one (.sl (m.length + 1) (2 + (padz r.length + 2)) (64 * j) (la.length - 64 * j)))]) (fun j => [(m.length + 2, ⟨.fix, 128, 0, 0, [.int .u32 ((compN S la j)).a, .int .u32 ((compN S la j)).b, .int .u32 ((compN S la j)).c, .int .u32 ((compN S la j)).d, .int .u32 ((compN S la j)).e, .int .u32 ((compN S la j)).f, .int .u32 ((compN S la j)).g, .int .u32 ((compN S la j)).h, (.sl (m.length + 1) 1 0 r.length), .int .u64 0]⟩)]) (fun j => la.length - 64 * j) 0 (by omega) ?_ ?_ fun j hi12 => ?_
    · first | rfl | (simp only [Keeps, Tm.get_cons, Nat.reduceEqDiff, ↓reduceIte, if_true, if_false, ite_true, ite_false, true_and, and_true, and_self, reduceCtorEq, compN, Nat.mul_zero, Nat.sub_zero] <;> rfl)
    · first | rfl | (simp only [setAll, push_cast, simprocAttr, hp, lk_old hp, hbb, lk_old hbb, prB, rowB, pS, u8l_len, Nat.sub_zero, Int.le_refl, ha1, ha2, ha3, ha4, ha5, hz0, q1, hhi, hlo, f1, f2, f3, q3, q4, n1, n2, n3, n4, hlc, hlc2, compN, Nat.mul_zero, Nat.sub_zero] <;> rfl)
    try simp only [keepL, setAll, push_cast, simprocAttr, hp, lk_old hp, hbb, lk_old hbb, prB, rowB, pS, u8l_len, Nat.sub_zero, Int.le_refl, ha1, ha2, ha3, ha4, ha5, hz0, q1, hhi, hlo, f1, f2, f3, q3, q4, n1, n2, n3, n4, hlc, hlc2]
    refine AW.seq_k fun K hK => ?_
    refine AW.seq_k fun K hK => ?_
    refine AW.region (by decide) ?_
    simp only [push_cast, simprocAttr, hp, lk_old hp, hbb, lk_old hbb, prB, rowB, pS, u8l_len, Nat.sub_zero, Int.le_refl, ha1, ha2, ha3, ha4, ha5, hz0, q1, hhi, hlo, f1, f2, f3, q3, q4, n1, n2, n3, n4, hlc, hlc2]
    refine Thn_n ?_
    refine hK _ _ ?_
    clear hK K
    refine AW.cond rfl (fun h53 => ?_) (fun h53 => ?_)
    · have hj : 64 ≤ la.length - 64 * j := by have := of_decide_eq_true h53; omega
      have c3 : (0 : Int) ≤ 64 := by omega
      have c4 : (64 : Int) ≤ ((la.length - 64 * j : Nat) : Int) := by omega
      have c5 : (((la.length - 64 * j : Nat) : Int)).toNat - 64 = la.length - 64 * j - 64 := by omega
      refine AW.skip ?_
      refine Thn_n ?_
      refine hK _ _ ?_
      clear hK K
      refine AW.seq_k fun K hK => ?_
      refine AW.block ?_
      refine AW.region (by decide) ?_
      simp only [push_cast, simprocAttr, hp, lk_old hp, hbb, lk_old hbb, prB, rowB, pS, u8l_len, Nat.sub_zero, Int.le_refl, ha1, ha2, ha3, ha4, ha5, hz0, q1, hhi, hlo, f1, f2, f3, q3, q4, n1, n2, n3, n4, hlc, hlc2, c3, c4, c5]
      refine CThen.by (stir_c (m.length + 2) (compN S la j) (.sl (m.length + 1) 1 0 r.length) 0 (m.length + 1) (2 + (padz r.length + 2)) (64 * j) 64 la _ (by simp only [push_cast, simprocAttr]) (by simp [CV.below]) ⟨.grow, 1, by simp only [push_cast, simprocAttr]⟩ (by omega) (by omega) (by omega) nb) ?_
      simp only [push_cast, simprocAttr, hp, lk_old hp, hbb, lk_old hbb, prB, rowB, pS, u8l_len, Nat.sub_zero, Int.le_refl, ha1, ha2, ha3, ha4, ha5, hz0, q1, hhi, hlo, f1, f2, f3, q3, q4, n1, n2, n3, n4, hlc, hlc2, c3, c4, c5]
      refine InB_n ?_
      refine Thn_n ?_
      refine hK _ _ ?_
      clear hK K
      refine AW.region (by decide) ?_
      simp only [push_cast, simprocAttr, hp, lk_old hp, hbb, lk_old hbb, prB, rowB, pS, u8l_len, Nat.sub_zero, Int.le_refl, ha1, ha2, ha3, ha4, ha5, hz0, q1, hhi, hlo, f1, f2, f3, q3, q4, n1, n2, n3, n4, hlc, hlc2, c3, c4, c5]
      refine Thn_n ?_
      have e1 : 64 * (j + 1) = 64 * j + 64 := by omega
      have e2 : la.length - (64 * j + 64) = la.length - 64 * j - 64 := by omega
      have e3 : compN S la (j + 1) = comp KW (compN S la j) la (64 * j) := rfl
      refine ⟨j + 1, by omega, by omega, ?_⟩
      try simp only [keepL, setAll, push_cast, simprocAttr, hp, lk_old hp, hbb, lk_old hbb, prB, rowB, pS, u8l_len, Nat.sub_zero, Int.le_refl, ha1, ha2, ha3, ha4, ha5, hz0, q1, hhi, hlo, f1, f2, f3, q3, q4, n1, n2, n3, n4, hlc, hlc2, c3, c4, c5, e1, e2, e3]
      exact Weak.same (by simp only [Keeps, Tm.get_cons, Nat.reduceEqDiff, ↓reduceIte, if_true, if_false, ite_true, ite_false, true_and, and_true, and_self, reduceCtorEq, e1, e2, e3]) (by first | rfl | simp only [Keeps, Tm.get_cons, Nat.reduceEqDiff, ↓reduceIte, if_true, if_false, ite_true, ite_false, true_and, and_true, and_self, reduceCtorEq, e1, e2, e3])
    · have hd0 : u8l (dP (compN S la (la.length / 64)) 0) = [.int .u8 0, .int .u8 0, .int .u8 0, .int .u8 0, .int .u8 0, .int .u8 0, .int .u8 0, .int .u8 0, .int .u8 0, .int .u8 0, .int .u8 0, .int .u8 0, .int .u8 0, .int .u8 0, .int .u8 0, .int .u8 0, .int .u8 0, .int .u8 0, .int .u8 0, .int .u8 0, .int .u8 0, .int .u8 0, .int .u8 0, .int .u8 0, .int .u8 0, .int .u8 0, .int .u8 0, .int .u8 0, .int .u8 0, .int .u8 0, .int .u8 0, .int .u8 0] := rfl
      have hje : j = la.length / 64 := by have := of_decide_eq_false h53; omega
      subst hje
      refine AW.exit ?_
      refine Thn_e ?_
      clear hK K
      refine Thn_e ?_
      refine InB_here ?_
      refine Thn_n ?_
      refine hK _ _ ?_
      clear hK K
      refine AW.seq_k fun K hK => ?_
      refine AW.region (by decide) ?_
      simp only [push_cast, simprocAttr, hp, lk_old hp, hbb, lk_old hbb, prB, rowB, pS, u8l_len, Nat.sub_zero, Int.le_refl, ha1, ha2, ha3, ha4, ha5, hz0, q1, hhi, hlo, f1, f2, f3, q3, q4, n1, n2, n3, n4, hlc, hlc2]
      refine Thn_n ?_
      refine hK _ _ ?_
      clear hK K
      refine AW.seq_k fun K hK => ?_
      refine AW.seq_k fun K hK => ?_
      refine AW.region (by decide) ?_
      simp only [push_cast, simprocAttr, hp, lk_old hp, hbb, lk_old hbb, prB, rowB, pS, u8l_len, Nat.sub_zero, Int.le_refl, ha1, ha2, ha3, ha4, ha5, hz0, q1, hhi, hlo, f1, f2, f3, q3, q4, n1, n2, n3, n4, hlc, hlc2]
      refine Thn_n ?_
      refine hK _ _ ?_
      clear hK K
      refine AW.block ?_
      refine AW.loopK [2, 5, 60] (fun i => i ≤ (8 : Nat)) (fun i => [(61, .one (.int .i64 (i : Int)))]) (fun i => [(m.length + 6, ⟨.fix, 38, 0, 0, u8l (dP (compN S la (la.length / 64)) i)⟩)]) (fun i => 8 - i) 0 (by omega) ?_ ?_ fun i hi19 => ?_
      · first | rfl | (simp only [Keeps, Tm.get_cons, Nat.reduceEqDiff, ↓reduceIte, if_true, if_false, ite_true, ite_false, true_and, and_true, and_self, reduceCtorEq, hd0, Int.natCast_zero] <;> rfl)
      · first | rfl | (simp only [setAll, push_cast, simprocAttr, hp, lk_old hp, hbb, lk_old hbb, prB, rowB, pS, u8l_len, Nat.sub_zero, Int.le_refl, ha1, ha2, ha3, ha4, ha5, hz0, q1, hhi, hlo, f1, f2, f3, q3, q4, n1, n2, n3, n4, hlc, hlc2, hd0, Int.natCast_zero] <;> rfl)
      have hi8 : i ≤ 8 := hi19
      try simp only [keepL, setAll, push_cast, simprocAttr, hp, lk_old hp, hbb, lk_old hbb, prB, rowB, pS, u8l_len, Nat.sub_zero, Int.le_refl, ha1, ha2, ha3, ha4, ha5, hz0, q1, hhi, hlo, f1, f2, f3, q3, q4, n1, n2, n3, n4, hlc, hlc2]
      refine AW.seq_k fun K hK => ?_
      refine AW.region (by decide) ?_
      simp only [push_cast, simprocAttr, hp, lk_old hp, hbb, lk_old hbb, prB, rowB, pS, u8l_len, Nat.sub_zero, Int.le_refl, ha1, ha2, ha3, ha4, ha5, hz0, q1, hhi, hlo, f1, f2, f3, q3, q4, n1, n2, n3, n4, hlc, hlc2]
      refine Thn_n ?_
      refine hK _ _ ?_
      clear hK K
      refine AW.seq_k fun K hK => ?_
      refine AW.cond rfl (fun h62 => ?_) (fun h62 => ?_)
      · have hlt8 : i < 8 := by have := of_decide_eq_true h62; omega
        have c3 : (0 : Int) ≤ (i : Int) := by omega
        have c4 : (i : Int) < 8 := by omega
        have gi := hS_get (compN S la (la.length / 64)) hlt8
        have hsn8 := dP_succ (compN S la (la.length / 64)) hlt8
        have wi4 : IntKind.i64.wrap (4 * (i : Int)) = 4 * (i : Int) := wi (by omega)
        have c5 : (0 : Int) ≤ 4 * (i : Int) := by omega
        have c6 : 4 * (i : Int) ≤ 32 := by omega
        have c7 : (4 * (i : Int)).toNat = 4 * i := by omega
        have c8 : min 4 (32 - 4 * i) = 4 := by omega
        have c9 := dP_len (compN S la (la.length / 64)) hi8
        have c10 : 4 * i + 4 ≤ 32 := by omega
        simp only [hS] at gi
        refine AW.skip ?_
        refine Thn_n ?_
        refine hK _ _ ?_
        clear hK K
        refine AW.seq_k fun K hK => ?_
        refine AW.block ?_
        refine AW.seq_k fun K hK => ?_
        refine AW.region (by decide) ?_
        simp only [push_cast, simprocAttr, hp, lk_old hp, hbb, lk_old hbb, prB, rowB, pS, u8l_len, Nat.sub_zero, Int.le_refl, ha1, ha2, ha3, ha4, ha5, hz0, q1, hhi, hlo, f1, f2, f3, q3, q4, n1, n2, n3, n4, hlc, hlc2, gi, hsn8, wi4, c3, c4, c5, c6, c7, c8, c9, c10]
        refine Thn_n ?_
        refine hK _ _ ?_
        clear hK K
        refine AW.drawX fol (by kernel_rfl) ?_
        refine DX.split 2 4 (by decide) ?_ ?_
        · refine DX.run [0, 1, 2, 3, 4, 5] [.val, .val, .ext, .val, .ext, .wr] (by simp only [permL, reOp, List.idxOf_cons, push_cast, simprocAttr, hp, lk_old hp, hbb, lk_old hbb, prB, rowB, pS, u8l_len, Nat.sub_zero, Int.le_refl, ha1, ha2, ha3, ha4, ha5, hz0, q1, hhi, hlo, f1, f2, f3, q3, q4, n1, n2, n3, n4, hlc, hlc2, gi, hsn8, wi4, c3, c4, c5, c6, c7, c8, c9, c10]; first | done | rfl) (by kernel_rfl) ?_
          simp only [push_cast, simprocAttr, hp, lk_old hp, hbb, lk_old hbb, prB, rowB, pS, u8l_len, Nat.sub_zero, Int.le_refl, ha1, ha2, ha3, ha4, ha5, hz0, q1, hhi, hlo, f1, f2, f3, q3, q4, n1, n2, n3, n4, hlc, hlc2, gi, hsn8, wi4, c3, c4, c5, c6, c7, c8, c9, c10]
          refine DExt.by (by first | rfl | exact (List.append_nil _).symm | (simp only [List.append_assoc, List.cons_append, List.nil_append]; rfl)) ?_
          simp only [push_cast, simprocAttr, hp, lk_old hp, hbb, lk_old hbb, prB, rowB, pS, u8l_len, Nat.sub_zero, Int.le_refl, ha1, ha2, ha3, ha4, ha5, hz0, q1, hhi, hlo, f1, f2, f3, q3, q4, n1, n2, n3, n4, hlc, hlc2, gi, hsn8, wi4, c3, c4, c5, c6, c7, c8, c9, c10]
          refine DCall.by (four_c _ _) ?_
          simp only [push_cast, simprocAttr, hp, lk_old hp, hbb, lk_old hbb, prB, rowB, pS, u8l_len, Nat.sub_zero, Int.le_refl, ha1, ha2, ha3, ha4, ha5, hz0, q1, hhi, hlo, f1, f2, f3, q3, q4, n1, n2, n3, n4, hlc, hlc2, gi, hsn8, wi4, c3, c4, c5, c6, c7, c8, c9, c10]
          refine InB_n ?_
          refine Thn_n ?_
          refine hK _ _ ?_
          clear hK K
          refine AW.region (by decide) ?_
          simp only [push_cast, simprocAttr, hp, lk_old hp, hbb, lk_old hbb, prB, rowB, pS, u8l_len, Nat.sub_zero, Int.le_refl, ha1, ha2, ha3, ha4, ha5, hz0, q1, hhi, hlo, f1, f2, f3, q3, q4, n1, n2, n3, n4, hlc, hlc2, gi, hsn8, wi4, c3, c4, c5, c6, c7, c8, c9, c10]
          refine Thn_n ?_
          have hwi : IntKind.i64.wrap ((i:Int)+1) = (i:Int)+1 := wi (by omega)
          refine ⟨i + 1, hlt8, by omega, ?_⟩
          try simp only [keepL, setAll, push_cast, simprocAttr, hp, lk_old hp, hbb, lk_old hbb, prB, rowB, pS, u8l_len, Nat.sub_zero, Int.le_refl, ha1, ha2, ha3, ha4, ha5, hz0, q1, hhi, hlo, f1, f2, f3, q3, q4, n1, n2, n3, n4, hlc, hlc2, gi, hsn8, wi4, c3, c4, c5, c6, c7, c8, c9, c10, hwi, hsn8]
          exact Weak.to (extra := [_]) (by simp only [Keeps, Tm.get_cons, Nat.reduceEqDiff, ↓reduceIte, if_true, if_false, ite_true, ite_false, true_and, and_true, and_self, reduceCtorEq, hwi, hsn8]) (by first | rfl | (simp only [List.append_assoc, List.cons_append, List.nil_append]; rfl)) (by first | rfl | (simp [AV.below, CV.below, u8l_below]; done) | (simp [AV.below, CV.below, u8l_below]; omega)) (by
            first | exact hwf | refine MWf.app (hwf.grow (by simp)) ?_
            repeat (first | exact MWf_nil | (refine MWf_cons ?_ ?_; · first | rfl | (simp [CV.below, u8l_below]; done) | (simp [CV.below, u8l_below]; omega))))
        · refine DX.run [0, 1, 3, 4, 2, 5] [.val, .val, .val, .ext, .ext, .wr] (by simp only [permL, reOp, List.idxOf_cons, push_cast, simprocAttr, hp, lk_old hp, hbb, lk_old hbb, prB, rowB, pS, u8l_len, Nat.sub_zero, Int.le_refl, ha1, ha2, ha3, ha4, ha5, hz0, q1, hhi, hlo, f1, f2, f3, q3, q4, n1, n2, n3, n4, hlc, hlc2, gi, hsn8, wi4, c3, c4, c5, c6, c7, c8, c9, c10]; first | done | rfl) (by kernel_rfl) ?_
          simp only [push_cast, simprocAttr, hp, lk_old hp, hbb, lk_old hbb, prB, rowB, pS, u8l_len, Nat.sub_zero, Int.le_refl, ha1, ha2, ha3, ha4, ha5, hz0, q1, hhi, hlo, f1, f2, f3, q3, q4, n1, n2, n3, n4, hlc, hlc2, gi, hsn8, wi4, c3, c4, c5, c6, c7, c8, c9, c10]
          refine DCall.by (four_c _ _) ?_
          simp only [push_cast, simprocAttr, hp, lk_old hp, hbb, lk_old hbb, prB, rowB, pS, u8l_len, Nat.sub_zero, Int.le_refl, ha1, ha2, ha3, ha4, ha5, hz0, q1, hhi, hlo, f1, f2, f3, q3, q4, n1, n2, n3, n4, hlc, hlc2, gi, hsn8, wi4, c3, c4, c5, c6, c7, c8, c9, c10]
          refine DExt.by (by first | rfl | exact (List.append_nil _).symm | (simp only [List.append_assoc, List.cons_append, List.nil_append]; rfl)) ?_
          simp only [push_cast, simprocAttr, hp, lk_old hp, hbb, lk_old hbb, prB, rowB, pS, u8l_len, Nat.sub_zero, Int.le_refl, ha1, ha2, ha3, ha4, ha5, hz0, q1, hhi, hlo, f1, f2, f3, q3, q4, n1, n2, n3, n4, hlc, hlc2, gi, hsn8, wi4, c3, c4, c5, c6, c7, c8, c9, c10]
          refine InB_n ?_
          refine Thn_n ?_
          refine hK _ _ ?_
          clear hK K
          refine AW.region (by decide) ?_
          simp only [push_cast, simprocAttr, hp, lk_old hp, hbb, lk_old hbb, prB, rowB, pS, u8l_len, Nat.sub_zero, Int.le_refl, ha1, ha2, ha3, ha4, ha5, hz0, q1, hhi, hlo, f1, f2, f3, q3, q4, n1, n2, n3, n4, hlc, hlc2, gi, hsn8, wi4, c3, c4, c5, c6, c7, c8, c9, c10]
          refine Thn_n ?_
          have hwi : IntKind.i64.wrap ((i:Int)+1) = (i:Int)+1 := wi (by omega)
          refine ⟨i + 1, hlt8, by omega, ?_⟩
          try simp only [keepL, setAll, push_cast, simprocAttr, hp, lk_old hp, hbb, lk_old hbb, prB, rowB, pS, u8l_len, Nat.sub_zero, Int.le_refl, ha1, ha2, ha3, ha4, ha5, hz0, q1, hhi, hlo, f1, f2, f3, q3, q4, n1, n2, n3, n4, hlc, hlc2, gi, hsn8, wi4, c3, c4, c5, c6, c7, c8, c9, c10, hwi, hsn8]
          exact Weak.to (extra := [_]) (by simp only [Keeps, Tm.get_cons, Nat.reduceEqDiff, ↓reduceIte, if_true, if_false, ite_true, ite_false, true_and, and_true, and_self, reduceCtorEq, hwi, hsn8]) (by first | rfl | (simp only [List.append_assoc, List.cons_append, List.nil_append]; rfl)) (by first | rfl | (simp [AV.below, CV.below, u8l_below]; done) | (simp [AV.below, CV.below, u8l_below]; omega)) (by
            first | exact hwf | refine MWf.app (hwf.grow (by simp)) ?_
            repeat (first | exact MWf_nil | (refine MWf_cons ?_ ?_; · first | rfl | (simp [CV.below, u8l_below]; done) | (simp [CV.below, u8l_below]; omega))))
      · have hi8e : i = 8 := by have := of_decide_eq_false h62; omega
        subst hi8e
        have hdf : u8l (dP (compN S la (la.length / 64)) 8) = [.int .u8 (IntKind.u8.wrap ((compN S la (la.length / 64)).a.fdiv 16777216)), .int .u8 (IntKind.u8.wrap ((compN S la (la.length / 64)).a.fdiv 65536)), .int .u8 (IntKind.u8.wrap ((compN S la (la.length / 64)).a.fdiv 256)), .int .u8 (IntKind.u8.wrap (compN S la (la.length / 64)).a), .int .u8 (IntKind.u8.wrap ((compN S la (la.length / 64)).b.fdiv 16777216)), .int .u8 (IntKind.u8.wrap ((compN S la (la.length / 64)).b.fdiv 65536)), .int .u8 (IntKind.u8.wrap ((compN S la (la.length / 64)).b.fdiv 256)), .int .u8 (IntKind.u8.wrap (compN S la (la.length / 64)).b), .int .u8 (IntKind.u8.wrap ((compN S la (la.length / 64)).c.fdiv 16777216)), .int .u8 (IntKind.u8.wrap ((compN S la (la.length / 64)).c.fdiv 65536)), .int .u8 (IntKind.u8.wrap ((compN S la (la.length / 64)).c.fdiv 256)), .int .u8 (IntKind.u8.wrap (compN S la (la.length / 64)).c), .int .u8 (IntKind.u8.wrap ((compN S la (la.length / 64)).d.fdiv 16777216)), .int .u8 (IntKind.u8.wrap ((compN S la (la.length / 64)).d.fdiv 65536)), .int .u8 (IntKind.u8.wrap ((compN S la (la.length / 64)).d.fdiv 256)), .int .u8 (IntKind.u8.wrap (compN S la (la.length / 64)).d), .int .u8 (IntKind.u8.wrap ((compN S la (la.length / 64)).e.fdiv 16777216)), .int .u8 (IntKind.u8.wrap ((compN S la (la.length / 64)).e.fdiv 65536)), .int .u8 (IntKind.u8.wrap ((compN S la (la.length / 64)).e.fdiv 256)), .int .u8 (IntKind.u8.wrap (compN S la (la.length / 64)).e), .int .u8 (IntKind.u8.wrap ((compN S la (la.length / 64)).f.fdiv 16777216)), .int .u8 (IntKind.u8.wrap ((compN S la (la.length / 64)).f.fdiv 65536)), .int .u8 (IntKind.u8.wrap ((compN S la (la.length / 64)).f.fdiv 256)), .int .u8 (IntKind.u8.wrap (compN S la (la.length / 64)).f), .int .u8 (IntKind.u8.wrap ((compN S la (la.length / 64)).g.fdiv 16777216)), .int .u8 (IntKind.u8.wrap ((compN S la (la.length / 64)).g.fdiv 65536)), .int .u8 (IntKind.u8.wrap ((compN S la (la.length / 64)).g.fdiv 256)), .int .u8 (IntKind.u8.wrap (compN S la (la.length / 64)).g), .int .u8 (IntKind.u8.wrap ((compN S la (la.length / 64)).h.fdiv 16777216)), .int .u8 (IntKind.u8.wrap ((compN S la (la.length / 64)).h.fdiv 65536)), .int .u8 (IntKind.u8.wrap ((compN S la (la.length / 64)).h.fdiv 256)), .int .u8 (IntKind.u8.wrap (compN S la (la.length / 64)).h)] := rfl
        refine AW.exit ?_
        refine Thn_e ?_
        clear hK K
        refine Thn_e ?_
        refine InB_here ?_
        refine Thn_n ?_
        refine hK _ _ ?_
        clear hK K
        refine AW.seq_k fun K hK => ?_
        refine AW.region (by decide) ?_
        simp only [push_cast, simprocAttr, hp, lk_old hp, hbb, lk_old hbb, prB, rowB, pS, u8l_len, Nat.sub_zero, Int.le_refl, ha1, ha2, ha3, ha4, ha5, hz0, q1, hhi, hlo, f1, f2, f3, q3, q4, n1, n2, n3, n4, hlc, hlc2, hdf]
        refine Thn_n ?_
        refine hK _ _ ?_
        clear hK K
        refine AW.ret ?_
        refine hQ _ _ _ ?_
        refine RetP.drop (Or.inr rfl) ?_ ?_ hwf
        · simp only [resA, resOne, resTv, AV.tv, push_cast, simprocAttr]
          rw [hfin]; rfl
        · rfl
        
end Go.Proofs.Ytdkfbbjpblfclaa

set_option linter.unusedSimpArgs false
set_option linter.unusedVariables false
set_option maxRecDepth 100000
set_option maxHeartbeats 4000000
namespace Go.Proofs.Ytdkfbbjpblfclaa
open Go Go.Eng

/-- What is stirred in depends on the block's bytes alone. -/
theorem word_congr {a b : List Int} {o p : Nat} (h : ∀ i, i < 64 → byB a (o + i) = byB b (p + i)) {i : Nat} (hi : i < 16) : wordV a (o + 4 * i) = wordV b (p + 4 * i) := by
  have h0 := h (4 * i) (by omega)
  have h1 := h (4 * i + 1) (by omega)
  have h2 := h (4 * i + 2) (by omega)
  have h3 := h (4 * i + 3) (by omega)
  simp only [wordV, Nat.add_assoc] at *
  rw [h0, h1, h2, h3]
theorem sch_congr {a b : List Int} {o p : Nat} (h : ∀ i, i < 64 → byB a (o + i) = byB b (p + i)) : ∀ i, sch a o i = sch b p i
  | 0 => rfl
  | i + 1 => by
    simp only [sch, sch_congr h i]
    by_cases hi : i < 16
    · rw [if_pos hi, if_pos hi, word_congr h hi]
    · rw [if_neg hi, if_neg hi]
theorem comp_congr (S : S8) {a b : List Int} {o p : Nat} (h : ∀ i, i < 64 → byB a (o + i) = byB b (p + i)) : comp KW S a o = comp KW S b p := by
  simp only [comp, sch_congr h]
theorem byB_app {a b : List Int} {i : Nat} (h : i < a.length) : byB (a ++ b) i = byB a i := by
  simp only [byB, List.getD_eq_getElem?_getD, List.getElem?_append_left h]
theorem byB_drop (a : List Int) (n i : Nat) : byB (a.drop n) i = byB a (n + i) := by
  simp only [byB, List.getD_eq_getElem?_getD, List.getElem?_drop]
theorem compN_app (S : S8) (a b : List Int) : ∀ k, 64 * k ≤ a.length → compN S (a ++ b) k = compN S a k
  | 0, _ => rfl
  | k + 1, h => by
    simp only [compN, compN_app S a b k (by omega)]
    exact comp_congr _ fun i hi => byB_app (by omega)
theorem compN_drop (S : S8) (a : List Int) (k : Nat) : ∀ j, compN (compN S a k) (a.drop (64 * k)) j = compN S a (k + j)
  | 0 => rfl
  | j + 1 => by
    rw [show k + (j + 1) = (k + j) + 1 from rfl]
    simp only [compN, compN_drop S a k j]
    exact comp_congr _ fun i hi => by rw [byB_drop]; congr 1; omega
theorem absS_app (s : PS) (a b : List Int) : absS (absS s a) b = absS s (a ++ b) := by
  obtain ⟨S, r, n⟩ := s
  generalize hx : r ++ a = x
  have e1 : r ++ (a ++ b) = x ++ b := by rw [← hx, List.append_assoc]
  have ed : x.drop (64 * (x.length / 64)) ++ b = (x ++ b).drop (64 * (x.length / 64)) := (List.drop_append_of_le_length (by omega)).symm
  have el : ((x ++ b).drop (64 * (x.length / 64))).length / 64 = (x ++ b).length / 64 - x.length / 64 := by rw [List.length_drop]; omega
  have eg : x.length / 64 ≤ (x ++ b).length / 64 := by rw [List.length_append]; omega
  simp only [absS, hx, e1, ed, el, PS.mk.injEq]
  refine ⟨?_, ?_, ?_⟩
  · rw [← compN_app S x b (x.length / 64) (by omega), compN_drop]; congr 1; omega
  · rw [List.drop_drop]; congr 1; omega
  · rw [IntKind.wrap_u64, IntKind.wrap_u64, IntKind.wrap_u64, List.length_append]; omega
def catP (bf : Nat → List Int) : Nat → List Int
  | 0 => []
  | i + 1 => catP bf i ++ bf i
def PSok (s : PS) : Prop := s.r.length < 64 ∧ 0 ≤ s.n ∧ s.n < 18446744073709551616
theorem absS_nil {s : PS} (h : PSok s) : absS s [] = s := by
  obtain ⟨S, r, n⟩ := s
  obtain ⟨h1, h2, h3⟩ := h
  dsimp only at h1 h2 h3
  have e : r.length / 64 = 0 := by omega
  simp only [absS, List.append_nil, e, Nat.mul_zero, List.drop_zero, compN, List.length_nil, PS.mk.injEq, true_and]
  rw [IntKind.wrap_u64]; omega
theorem accP_cat {s : PS} (h : PSok s) (bf : Nat → List Int) : ∀ n, accP s bf n = absS s (catP bf n)
  | 0 => (absS_nil h).symm
  | n + 1 => by simp only [accP, catP, accP_cat h bf n, absS_app]
def P0 : PS := ⟨IV, [], 0⟩
theorem p0_ok : PSok P0 := ⟨by decide, by decide, by decide⟩
/-- The sum of some bytes. -/
def shaL (bs : List Int) : List Int := digL (finS (absS P0 bs))
theorem shaL_len (bs : List Int) : (shaL bs).length = 32 := rfl
/-- A part, as it comes in. -/
def PartIn (m : AMem) (c : CV) (bs : List Int) : Prop :=
  (c = .nils ∧ bs = []) ∨ ∃ rb k ty v ez off X, c = .sl rb v off bs.length ∧ m[rb]? = some ⟨k, ty, v, ez, u8l X⟩ ∧ off + bs.length ≤ X.length ∧ (X.drop off).take bs.length = bs
theorem PartIn.at {m : AMem} {c : CV} {bs : List Int} (h : PartIn m c bs) (L : AMem) {bb : Nat} (hb : m.length ≤ bb) : PartAt (m ++ L) bb c bs := by
  rcases h with h | ⟨rb, k, ty, v, ez, off, X, h1, h2, h3, h4⟩
  · exact .inl h
  · have := get_lt h2
    exact .inr ⟨rb, k, ty, v, ez, off, X, h1, by omega, lk_old h2 L, h3, h4⟩
theorem of_c (lb vl lo np : Nat) (cf : Nat → CV) (bf : Nat → List Int) (X : List CV) (kl : BK) (el : Nat) (m : AMem) (hl : m[lb]? = some ⟨kl, 35, vl, el, X⟩) (hX : ∀ i, i < np → X[lo + i]? = some (cf i)) (hP : ∀ i, i < np → PartIn m (cf i) (bf i)) (hbl : ∀ i, i < np → (bf i).length ≤ 1000000) (hbo : ∀ i, i < np → U8ok (bf i)) (hnp : np ≤ 1048576) : Ctr Try.prog 30 [.one (.sl lb vl lo np)] m (.agg (u8l (shaL (catP bf np)))) m := by
  refine Ctr.enter Try.func30 rfl (by decide) (rs := [.cell 2 38]) (nt := 10) rfl rfl fun hwf Q hQ => ?_
  have hacc := accP_cat p0_ok bf np
  have hsl : (u8l (shaL (catP bf np))).length = 32 := rfl
  have hrr : (absS P0 (catP bf np)).r.length < 64 := absS_r _ _
  have hoo : U8ok (absS P0 (catP bf np)).r := by rw [← hacc]; exact accP_ok U8ok.nil hbo np (Nat.le_refl _)
  have hd1 : (digL (finS (absS P0 (catP bf np)))).length = 32 := rfl
  have hd2 : setL [.int .u8 0, .int .u8 0, .int .u8 0, .int .u8 0, .int .u8 0, .int .u8 0, .int .u8 0, .int .u8 0, .int .u8 0, .int .u8 0, .int .u8 0, .int .u8 0, .int .u8 0, .int .u8 0, .int .u8 0, .int .u8 0, .int .u8 0, .int .u8 0, .int .u8 0, .int .u8 0, .int .u8 0, .int .u8 0, .int .u8 0, .int .u8 0, .int .u8 0, .int .u8 0, .int .u8 0, .int .u8 0, .int .u8 0, .int .u8 0, .int .u8 0, .int .u8 0] 0 (u8l (digL (finS (absS P0 (catP bf np))))) = u8l (digL (finS (absS P0 (catP bf np)))) := setL_full rfl
  have hd3 := u8l_vals (digL (finS (absS P0 (catP bf np))))
  refine AW.seq_k fun K hK => ?_
  refine AW.region (by decide) ?_
  simp only [push_cast, simprocAttr, hacc, pwr, rowB, prB, u8l_len, Nat.le_refl, hd1, hd2, hd3]
  refine Thn_n ?_
  refine hK _ _ ?_
  clear hK K
  refine AW.seq_k fun K hK => ?_
  refine AW.region (by decide) ?_
  simp only [push_cast, simprocAttr, hacc, pwr, rowB, prB, u8l_len, Nat.le_refl, hd1, hd2, hd3]
  refine CThen.by (new_c _) ?_
  simp only [push_cast, simprocAttr, hacc, pwr, rowB, prB, u8l_len, Nat.le_refl, hd1, hd2, hd3]
  refine Thn_n ?_
  refine hK _ _ ?_
  clear hK K
  refine AW.seq_k fun K hK => ?_
  refine AW.nilCell 5 1 (m.length + 1) 8 (b := ⟨.fix, 128, 0, 0, [.int .u32 (IV).a, .int .u32 (IV).b, .int .u32 (IV).c, .int .u32 (IV).d, .int .u32 (IV).e, .int .u32 (IV).f, .int .u32 (IV).g, .int .u32 (IV).h, .nils, .int .u64 0]⟩) (by simp only [push_cast, simprocAttr]) (by simp) rfl ?_
  simp only [push_cast, simprocAttr]
  refine AW.region (by decide) ?_
  simp only [push_cast, simprocAttr, hacc, pwr, rowB, prB, u8l_len, Nat.le_refl, hd1, hd2, hd3]
  refine CThen.by (write_c (m.length + 1) (m.length + 2) 0 lb vl lo np P0 cf bf X kl el _ (by simp only [push_cast, simprocAttr]; rfl) (by simp only [push_cast, simprocAttr]; rfl) (by simp only [push_cast, simprocAttr, lk_old hl]) (by have := get_lt hl; omega) hX (fun i hi => (hP i hi).at _ (by omega)) hbl hbo (by decide) U8ok.nil hnp) ?_
  simp only [push_cast, simprocAttr, hacc, pwr, rowB, prB, u8l_len, Nat.le_refl, hd1, hd2, hd3]
  refine Thn_n ?_
  refine hK _ _ ?_
  clear hK K
  refine AW.seq_k fun K hK => ?_
  refine AW.region (by decide) ?_
  simp only [push_cast, simprocAttr, hacc, pwr, rowB, prB, u8l_len, Nat.le_refl, hd1, hd2, hd3]
  refine CThen.by (sum_c (m.length + 1) (m.length + 2) (2 * np) (absS P0 (catP bf np)) _ (by simp only [push_cast, simprocAttr, pwr, rowB, prB]) (by simp only [push_cast, simprocAttr, pwr, rowB, prB]) hrr hoo) ?_
  simp only [push_cast, simprocAttr, hacc, pwr, rowB, prB, u8l_len, Nat.le_refl, hd1, hd2, hd3]
  refine Thn_n ?_
  refine hK _ _ ?_
  clear hK K
  refine AW.ret ?_
  refine hQ _ _ _ ?_
  refine RetP.drop (Or.inr rfl) ?_ ?_ hwf
  · simp only [resA, resOne, resTv, AV.tv, push_cast, simprocAttr]
    rfl
  · rfl
  
end Go.Proofs.Ytdkfbbjpblfclaa

set_option linter.unusedSimpArgs false
set_option linter.unusedVariables false
set_option maxRecDepth 100000
set_option maxHeartbeats 4000000
namespace Go.Proofs.Ytdkfbbjpblfclaa
open Go Go.Eng

theorem of1_c (lb vl lo : Nat) (c : CV) (bs : List Int) (X : List CV) (kl : BK) (el : Nat) (m : AMem) (hl : m[lb]? = some ⟨kl, 35, vl, el, X⟩) (h0 : X[lo]? = some c) (hp : PartIn m c bs) (hb : bs.length ≤ 1000000) (ho : U8ok bs) :
    Ctr Try.prog 30 [.one (.sl lb vl lo 1)] m (.agg (u8l (shaL bs))) m := by
  have h := of_c lb vl lo 1 (fun _ => c) (fun _ => bs) X kl el m hl (fun i hi => by obtain rfl : i = 0 := by omega
                                                                                    exact h0) (fun i _ => hp) (fun i _ => hb) (fun i _ => ho) (by decide)
  simpa only [catP, List.nil_append] using h
theorem PartIn.row {m : AMem} {rb v off n : Nat} {bs X : List Int} {k : BK} {ty ez : Nat} (hb : m[rb]? = some ⟨k, ty, v, ez, u8l X⟩) (hn : n = bs.length) (hf : off + bs.length ≤ X.length) (hx : (X.drop off).take bs.length = bs) : PartIn m (.sl rb v off n) bs :=
  .inr ⟨rb, k, ty, v, ez, off, X, by rw [hn], hb, hf, hx⟩
theorem PartIn.all {m : AMem} {rb v n : Nat} {bs : List Int} {k : BK} {ty ez : Nat} (hb : m[rb]? = some ⟨k, ty, v, ez, u8l bs⟩) (hn : n = bs.length) : PartIn m (.sl rb v 0 n) bs :=
  .row hb hn (by omega) (by rw [List.drop_zero, List.take_length])
theorem PartAt.all {m : AMem} {bb rb v n : Nat} {bs : List Int} {k : BK} {ty ez : Nat} (hb : m[rb]? = some ⟨k, ty, v, ez, u8l bs⟩) (hn : n = bs.length) (hne : rb ≠ bb) : PartAt m bb (.sl rb v 0 n) bs :=
  .inr ⟨rb, k, ty, v, ez, 0, bs, by rw [hn], hne, hb, by omega, by rw [List.drop_zero, List.take_length]⟩
end Go.Proofs.Ytdkfbbjpblfclaa

set_option linter.unusedSimpArgs false
set_option linter.unusedVariables false
set_option maxRecDepth 100000
set_option maxHeartbeats 4000000
namespace Go.Proofs.Ytdkfbbjpblfclaa
open Go Go.Eng

/-- The cells of so many integers; of bools; of rows. -/
def il : Nat → (Nat → Int) → List CV
  | 0, _ => []
  | n + 1, f => il n f ++ [.int .i64 (f n)]
theorem il_len : ∀ (n : Nat) (f : Nat → Int), (il n f).length = n
  | 0, _ => rfl
  | n + 1, f => by simp only [il, List.length_append, il_len n f, List.length_cons, List.length_nil]
theorem il_get : ∀ {n : Nat} {f : Nat → Int} {i : Nat}, i < n → (il n f)[i]? = some (.int .i64 (f i))
  | n + 1, f, i, hi => by
    simp only [il]
    rcases Nat.lt_or_ge i n with h | h
    · rw [List.getElem?_append_left (by rw [il_len]; omega)]; exact il_get h
    · have e : i = n := by omega
      subst e
      rw [List.getElem?_append_right (by rw [il_len]; omega), il_len, Nat.sub_self]; rfl
def bl : Nat → (Nat → Bool) → List CV
  | 0, _ => []
  | n + 1, f => bl n f ++ [.bool (f n)]
def rl : Nat → (Nat → Nat) → (Nat → Nat) → (Nat → Nat) → List CV
  | 0, _, _, _ => []
  | n + 1, r, vv, ln => rl n r vv ln ++ [.sl (r n) (vv n) 0 (ln n)]
/-- Integers, bools, rows of integers in memory. -/
structure IntsAt (m : AMem) (r v n : Nat) (f : Nat → Int) : Prop where
  hb : ∃ k ez, m[r]? = some ⟨k, 3, v, ez, il n f⟩
structure BoolsAt (m : AMem) (r v n : Nat) (f : Nat → Bool) : Prop where
  hb : ∃ k ez, m[r]? = some ⟨k, 4, v, ez, bl n f⟩
structure RowsAt (m : AMem) (r vp n : Nat) (ln : Nat → Nat) (q : Nat → Nat → Int) : Prop where
  hb : ∃ k ez rr vv, m[r]? = some ⟨k, 49, vp, ez, rl n rr vv ln⟩ ∧ ∀ i, i < n → IntsAt m (rr i) (vv i) (ln i) (q i)
theorem IntsAt.mono {m : AMem} {r v n : Nat} {f : Nat → Int} (h : IntsAt m r v n f) (x : AMem) : IntsAt (m ++ x) r v n f := by
  obtain ⟨k, ez, hb⟩ := h.hb; exact ⟨k, ez, lk_old hb x⟩
theorem BoolsAt.mono {m : AMem} {r v n : Nat} {f : Nat → Bool} (h : BoolsAt m r v n f) (x : AMem) : BoolsAt (m ++ x) r v n f := by
  obtain ⟨k, ez, hb⟩ := h.hb; exact ⟨k, ez, lk_old hb x⟩
theorem RowsAt.mono {m : AMem} {r vp n : Nat} {ln : Nat → Nat} {q : Nat → Nat → Int} (h : RowsAt m r vp n ln q) (x : AMem) : RowsAt (m ++ x) r vp n ln q := by
  obtain ⟨k, ez, rr, vv, hb, hr⟩ := h.hb; exact ⟨k, ez, rr, vv, lk_old hb x, fun i hi => (hr i hi).mono x⟩
end Go.Proofs.Ytdkfbbjpblfclaa
