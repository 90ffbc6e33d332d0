/-
  FACTS on the types of this seat's program, written by a program of mine (gen_facts.py).
-/
import Derived.Test.YtmjbbnfmhgcfaaaProg
import Derived.Test.YtmjbbnfmhgcfaaaEngN
set_option maxRecDepth 100000
namespace Go.Proofs.Ytmjbbnfmhgcfaaa
open Go Go.Eng
theorem fol : Try.prog.follows .mixedOrders = true := by kernel_rfl
theorem sz1 : szOf Try.prog 1 = some 1 := by kernel_rfl
theorem by1 : byOf Try.prog 1 = some 8 := by kernel_rfl
theorem ag1 : aggOf Try.prog 1 = some false := by kernel_rfl
theorem zr1 : zeroOf Try.prog 1 = some .nilFunc := by kernel_rfl
theorem sz2 : szOf Try.prog 2 = some 1 := by kernel_rfl
theorem by2 : byOf Try.prog 2 = some 8 := by kernel_rfl
theorem ag2 : aggOf Try.prog 2 = some false := by kernel_rfl
theorem zr2 : zeroOf Try.prog 2 = some (.int .i64 0) := by kernel_rfl
theorem sz3 : szOf Try.prog 3 = some 1 := by kernel_rfl
theorem by3 : byOf Try.prog 3 = some 8 := by kernel_rfl
theorem ag3 : aggOf Try.prog 3 = some false := by kernel_rfl
theorem zr3 : zeroOf Try.prog 3 = some (.int .i64 0) := by kernel_rfl
theorem sz4 : szOf Try.prog 4 = some 1 := by kernel_rfl
theorem by4 : byOf Try.prog 4 = some 1 := by kernel_rfl
theorem ag4 : aggOf Try.prog 4 = some false := by kernel_rfl
theorem zr4 : zeroOf Try.prog 4 = some (.bool false) := by kernel_rfl
theorem sz5 : szOf Try.prog 5 = some 1 := by kernel_rfl
theorem by5 : byOf Try.prog 5 = some 1 := by kernel_rfl
theorem ag5 : aggOf Try.prog 5 = some false := by kernel_rfl
theorem zr5 : zeroOf Try.prog 5 = some (.int .u8 0) := by kernel_rfl
theorem sz9 : szOf Try.prog 9 = some 1 := by kernel_rfl
theorem by9 : byOf Try.prog 9 = some 16 := by kernel_rfl
theorem ag9 : aggOf Try.prog 9 = some false := by kernel_rfl
theorem zr9 : zeroOf Try.prog 9 = some (.string ByteArray.empty) := by kernel_rfl
theorem sz12 : szOf Try.prog 12 = some 1 := by kernel_rfl
theorem by12 : byOf Try.prog 12 = some 8 := by kernel_rfl
theorem ag12 : aggOf Try.prog 12 = some false := by kernel_rfl
theorem zr12 : zeroOf Try.prog 12 = some (.int .u64 0) := by kernel_rfl
theorem sz15 : szOf Try.prog 15 = some 1 := by kernel_rfl
theorem by15 : byOf Try.prog 15 = some 8 := by kernel_rfl
theorem ag15 : aggOf Try.prog 15 = some false := by kernel_rfl
theorem zr15 : zeroOf Try.prog 15 = some (.pointer none) := by kernel_rfl
theorem sz16 : szOf Try.prog 16 = some 1 := by kernel_rfl
theorem by16 : byOf Try.prog 16 = some 8 := by kernel_rfl
theorem ag16 : aggOf Try.prog 16 = some false := by kernel_rfl
theorem zr16 : zeroOf Try.prog 16 = some (.pointer none) := by kernel_rfl
theorem sz17 : szOf Try.prog 17 = some 1 := by kernel_rfl
theorem by17 : byOf Try.prog 17 = some 8 := by kernel_rfl
theorem ag17 : aggOf Try.prog 17 = some false := by kernel_rfl
theorem zr17 : zeroOf Try.prog 17 = some (.pointer none) := by kernel_rfl
theorem sz20 : szOf Try.prog 20 = some 1 := by kernel_rfl
theorem by20 : byOf Try.prog 20 = some 16 := by kernel_rfl
theorem ag20 : aggOf Try.prog 20 = some false := by kernel_rfl
theorem zr20 : zeroOf Try.prog 20 = some .nilIface := by kernel_rfl
theorem sz21 : szOf Try.prog 21 = some 1 := by kernel_rfl
theorem by21 : byOf Try.prog 21 = some 4 := by kernel_rfl
theorem ag21 : aggOf Try.prog 21 = some false := by kernel_rfl
theorem zr21 : zeroOf Try.prog 21 = some (.int .i32 0) := by kernel_rfl
theorem sz22 : szOf Try.prog 22 = some 32 := by kernel_rfl
theorem by22 : byOf Try.prog 22 = some 32 := by kernel_rfl
theorem ag22 : aggOf Try.prog 22 = some true := by kernel_rfl
theorem eg22 : Try.prog.eqGuardType Try.prog.depth 22 = false := by kernel_rfl
theorem zr22 : zeroOf Try.prog 22 = some (.agg #[(.int .u8 0), (.int .u8 0), (.int .u8 0), (.int .u8 0), (.int .u8 0), (.int .u8 0), (.int .u8 0), (.int .u8 0), (.int .u8 0), (.int .u8 0), (.int .u8 0), (.int .u8 0), (.int .u8 0), (.int .u8 0), (.int .u8 0), (.int .u8 0), (.int .u8 0), (.int .u8 0), (.int .u8 0), (.int .u8 0), (.int .u8 0), (.int .u8 0), (.int .u8 0), (.int .u8 0), (.int .u8 0), (.int .u8 0), (.int .u8 0), (.int .u8 0), (.int .u8 0), (.int .u8 0), (.int .u8 0), (.int .u8 0)]) := by kernel_rfl
theorem sz23 : szOf Try.prog 23 = some 1 := by kernel_rfl
theorem by23 : byOf Try.prog 23 = some 24 := by kernel_rfl
theorem ag23 : aggOf Try.prog 23 = some false := by kernel_rfl
theorem zr23 : zeroOf Try.prog 23 = some (.slice none 0 0) := by kernel_rfl
theorem sz24 : szOf Try.prog 24 = some 1 := by kernel_rfl
theorem by24 : byOf Try.prog 24 = some 8 := by kernel_rfl
theorem ag24 : aggOf Try.prog 24 = some false := by kernel_rfl
theorem zr24 : zeroOf Try.prog 24 = some .nilFunc := by kernel_rfl
theorem sz25 : szOf Try.prog 25 = some 1 := by kernel_rfl
theorem by25 : byOf Try.prog 25 = some 24 := by kernel_rfl
theorem ag25 : aggOf Try.prog 25 = some false := by kernel_rfl
theorem zr25 : zeroOf Try.prog 25 = some (.slice none 0 0) := by kernel_rfl
theorem sz26 : szOf Try.prog 26 = some 1 := by kernel_rfl
theorem by26 : byOf Try.prog 26 = some 8 := by kernel_rfl
theorem ag26 : aggOf Try.prog 26 = some false := by kernel_rfl
theorem zr26 : zeroOf Try.prog 26 = some .nilFunc := by kernel_rfl
theorem sz27 : szOf Try.prog 27 = some 1 := by kernel_rfl
theorem by27 : byOf Try.prog 27 = some 4 := by kernel_rfl
theorem ag27 : aggOf Try.prog 27 = some false := by kernel_rfl
theorem zr27 : zeroOf Try.prog 27 = some (.int .u32 0) := by kernel_rfl
theorem sz28 : szOf Try.prog 28 = some 8 := by kernel_rfl
theorem by28 : byOf Try.prog 28 = some 32 := by kernel_rfl
theorem ag28 : aggOf Try.prog 28 = some true := by kernel_rfl
theorem eg28 : Try.prog.eqGuardType Try.prog.depth 28 = false := by kernel_rfl
theorem zr28 : zeroOf Try.prog 28 = some (.agg #[(.int .u32 0), (.int .u32 0), (.int .u32 0), (.int .u32 0), (.int .u32 0), (.int .u32 0), (.int .u32 0), (.int .u32 0)]) := by kernel_rfl
theorem sz29 : szOf Try.prog 29 = some 64 := by kernel_rfl
theorem by29 : byOf Try.prog 29 = some 256 := by kernel_rfl
theorem ag29 : aggOf Try.prog 29 = some true := by kernel_rfl
theorem eg29 : Try.prog.eqGuardType Try.prog.depth 29 = false := by kernel_rfl
theorem zr29 : zeroOf Try.prog 29 = some (.agg #[(.int .u32 0), (.int .u32 0), (.int .u32 0), (.int .u32 0), (.int .u32 0), (.int .u32 0), (.int .u32 0), (.int .u32 0), (.int .u32 0), (.int .u32 0), (.int .u32 0), (.int .u32 0), (.int .u32 0), (.int .u32 0), (.int .u32 0), (.int .u32 0), (.int .u32 0), (.int .u32 0), (.int .u32 0), (.int .u32 0), (.int .u32 0), (.int .u32 0), (.int .u32 0), (.int .u32 0), (.int .u32 0), (.int .u32 0), (.int .u32 0), (.int .u32 0), (.int .u32 0), (.int .u32 0), (.int .u32 0), (.int .u32 0), (.int .u32 0), (.int .u32 0), (.int .u32 0), (.int .u32 0), (.int .u32 0), (.int .u32 0), (.int .u32 0), (.int .u32 0), (.int .u32 0), (.int .u32 0), (.int .u32 0), (.int .u32 0), (.int .u32 0), (.int .u32 0), (.int .u32 0), (.int .u32 0), (.int .u32 0), (.int .u32 0), (.int .u32 0), (.int .u32 0), (.int .u32 0), (.int .u32 0), (.int .u32 0), (.int .u32 0), (.int .u32 0), (.int .u32 0), (.int .u32 0), (.int .u32 0), (.int .u32 0), (.int .u32 0), (.int .u32 0), (.int .u32 0)]) := by kernel_rfl
theorem sz30 : szOf Try.prog 30 = some 72 := by kernel_rfl
theorem by30 : byOf Try.prog 30 = some 288 := by kernel_rfl
theorem ag30 : aggOf Try.prog 30 = some true := by kernel_rfl
theorem eg30 : Try.prog.eqGuardType Try.prog.depth 30 = false := by kernel_rfl
theorem si30 : Try.prog.stoodInHeld 30 = false := by kernel_rfl
theorem zr30 : zeroOf Try.prog 30 = some (.agg #[(.int .u32 0), (.int .u32 0), (.int .u32 0), (.int .u32 0), (.int .u32 0), (.int .u32 0), (.int .u32 0), (.int .u32 0), (.int .u32 0), (.int .u32 0), (.int .u32 0), (.int .u32 0), (.int .u32 0), (.int .u32 0), (.int .u32 0), (.int .u32 0), (.int .u32 0), (.int .u32 0), (.int .u32 0), (.int .u32 0), (.int .u32 0), (.int .u32 0), (.int .u32 0), (.int .u32 0), (.int .u32 0), (.int .u32 0), (.int .u32 0), (.int .u32 0), (.int .u32 0), (.int .u32 0), (.int .u32 0), (.int .u32 0), (.int .u32 0), (.int .u32 0), (.int .u32 0), (.int .u32 0), (.int .u32 0), (.int .u32 0), (.int .u32 0), (.int .u32 0), (.int .u32 0), (.int .u32 0), (.int .u32 0), (.int .u32 0), (.int .u32 0), (.int .u32 0), (.int .u32 0), (.int .u32 0), (.int .u32 0), (.int .u32 0), (.int .u32 0), (.int .u32 0), (.int .u32 0), (.int .u32 0), (.int .u32 0), (.int .u32 0), (.int .u32 0), (.int .u32 0), (.int .u32 0), (.int .u32 0), (.int .u32 0), (.int .u32 0), (.int .u32 0), (.int .u32 0), (.int .u32 0), (.int .u32 0), (.int .u32 0), (.int .u32 0), (.int .u32 0), (.int .u32 0), (.int .u32 0), (.int .u32 0)]) := by kernel_rfl
theorem sz31 : szOf Try.prog 31 = some 72 := by kernel_rfl
theorem by31 : byOf Try.prog 31 = some 288 := by kernel_rfl
theorem ag31 : aggOf Try.prog 31 = some true := by kernel_rfl
theorem eg31 : Try.prog.eqGuardType Try.prog.depth 31 = false := by kernel_rfl
theorem si31 : Try.prog.stoodInHeld 31 = false := by kernel_rfl
theorem zr31 : zeroOf Try.prog 31 = some (.agg #[(.int .u32 0), (.int .u32 0), (.int .u32 0), (.int .u32 0), (.int .u32 0), (.int .u32 0), (.int .u32 0), (.int .u32 0), (.int .u32 0), (.int .u32 0), (.int .u32 0), (.int .u32 0), (.int .u32 0), (.int .u32 0), (.int .u32 0), (.int .u32 0), (.int .u32 0), (.int .u32 0), (.int .u32 0), (.int .u32 0), (.int .u32 0), (.int .u32 0), (.int .u32 0), (.int .u32 0), (.int .u32 0), (.int .u32 0), (.int .u32 0), (.int .u32 0), (.int .u32 0), (.int .u32 0), (.int .u32 0), (.int .u32 0), (.int .u32 0), (.int .u32 0), (.int .u32 0), (.int .u32 0), (.int .u32 0), (.int .u32 0), (.int .u32 0), (.int .u32 0), (.int .u32 0), (.int .u32 0), (.int .u32 0), (.int .u32 0), (.int .u32 0), (.int .u32 0), (.int .u32 0), (.int .u32 0), (.int .u32 0), (.int .u32 0), (.int .u32 0), (.int .u32 0), (.int .u32 0), (.int .u32 0), (.int .u32 0), (.int .u32 0), (.int .u32 0), (.int .u32 0), (.int .u32 0), (.int .u32 0), (.int .u32 0), (.int .u32 0), (.int .u32 0), (.int .u32 0), (.int .u32 0), (.int .u32 0), (.int .u32 0), (.int .u32 0), (.int .u32 0), (.int .u32 0), (.int .u32 0), (.int .u32 0)]) := by kernel_rfl
theorem sz32 : szOf Try.prog 32 = some 1 := by kernel_rfl
theorem by32 : byOf Try.prog 32 = some 8 := by kernel_rfl
theorem ag32 : aggOf Try.prog 32 = some false := by kernel_rfl
theorem zr32 : zeroOf Try.prog 32 = some .nilFunc := by kernel_rfl
theorem sz33 : szOf Try.prog 33 = some 1 := by kernel_rfl
theorem by33 : byOf Try.prog 33 = some 24 := by kernel_rfl
theorem ag33 : aggOf Try.prog 33 = some false := by kernel_rfl
theorem zr33 : zeroOf Try.prog 33 = some (.slice none 0 0) := by kernel_rfl
theorem sz34 : szOf Try.prog 34 = some 1 := by kernel_rfl
theorem by34 : byOf Try.prog 34 = some 24 := by kernel_rfl
theorem ag34 : aggOf Try.prog 34 = some false := by kernel_rfl
theorem zr34 : zeroOf Try.prog 34 = some (.slice none 0 0) := by kernel_rfl
theorem sz35 : szOf Try.prog 35 = some 1 := by kernel_rfl
theorem by35 : byOf Try.prog 35 = some 8 := by kernel_rfl
theorem ag35 : aggOf Try.prog 35 = some false := by kernel_rfl
theorem zr35 : zeroOf Try.prog 35 = some .nilFunc := by kernel_rfl
theorem sz36 : szOf Try.prog 36 = some 32 := by kernel_rfl
theorem by36 : byOf Try.prog 36 = some 32 := by kernel_rfl
theorem ag36 : aggOf Try.prog 36 = some true := by kernel_rfl
theorem eg36 : Try.prog.eqGuardType Try.prog.depth 36 = false := by kernel_rfl
theorem zr36 : zeroOf Try.prog 36 = some (.agg #[(.int .u8 0), (.int .u8 0), (.int .u8 0), (.int .u8 0), (.int .u8 0), (.int .u8 0), (.int .u8 0), (.int .u8 0), (.int .u8 0), (.int .u8 0), (.int .u8 0), (.int .u8 0), (.int .u8 0), (.int .u8 0), (.int .u8 0), (.int .u8 0), (.int .u8 0), (.int .u8 0), (.int .u8 0), (.int .u8 0), (.int .u8 0), (.int .u8 0), (.int .u8 0), (.int .u8 0), (.int .u8 0), (.int .u8 0), (.int .u8 0), (.int .u8 0), (.int .u8 0), (.int .u8 0), (.int .u8 0), (.int .u8 0)]) := by kernel_rfl
theorem sz37 : szOf Try.prog 37 = some 1 := by kernel_rfl
theorem by37 : byOf Try.prog 37 = some 24 := by kernel_rfl
theorem ag37 : aggOf Try.prog 37 = some false := by kernel_rfl
theorem zr37 : zeroOf Try.prog 37 = some (.slice none 0 0) := by kernel_rfl
theorem sz38 : szOf Try.prog 38 = some 35 := by kernel_rfl
theorem by38 : byOf Try.prog 38 = some 72 := by kernel_rfl
theorem ag38 : aggOf Try.prog 38 = some true := by kernel_rfl
theorem eg38 : Try.prog.eqGuardType Try.prog.depth 38 = false := by kernel_rfl
theorem si38 : Try.prog.stoodInHeld 38 = false := by kernel_rfl
theorem zr38 : zeroOf Try.prog 38 = some (.agg #[(.int .i64 0), (.int .i64 0), (.int .u8 0), (.int .u8 0), (.int .u8 0), (.int .u8 0), (.int .u8 0), (.int .u8 0), (.int .u8 0), (.int .u8 0), (.int .u8 0), (.int .u8 0), (.int .u8 0), (.int .u8 0), (.int .u8 0), (.int .u8 0), (.int .u8 0), (.int .u8 0), (.int .u8 0), (.int .u8 0), (.int .u8 0), (.int .u8 0), (.int .u8 0), (.int .u8 0), (.int .u8 0), (.int .u8 0), (.int .u8 0), (.int .u8 0), (.int .u8 0), (.int .u8 0), (.int .u8 0), (.int .u8 0), (.int .u8 0), (.int .u8 0), (.slice none 0 0)]) := by kernel_rfl
theorem sz39 : szOf Try.prog 39 = some 35 := by kernel_rfl
theorem by39 : byOf Try.prog 39 = some 72 := by kernel_rfl
theorem ag39 : aggOf Try.prog 39 = some true := by kernel_rfl
theorem eg39 : Try.prog.eqGuardType Try.prog.depth 39 = false := by kernel_rfl
theorem si39 : Try.prog.stoodInHeld 39 = false := by kernel_rfl
theorem zr39 : zeroOf Try.prog 39 = some (.agg #[(.int .i64 0), (.int .i64 0), (.int .u8 0), (.int .u8 0), (.int .u8 0), (.int .u8 0), (.int .u8 0), (.int .u8 0), (.int .u8 0), (.int .u8 0), (.int .u8 0), (.int .u8 0), (.int .u8 0), (.int .u8 0), (.int .u8 0), (.int .u8 0), (.int .u8 0), (.int .u8 0), (.int .u8 0), (.int .u8 0), (.int .u8 0), (.int .u8 0), (.int .u8 0), (.int .u8 0), (.int .u8 0), (.int .u8 0), (.int .u8 0), (.int .u8 0), (.int .u8 0), (.int .u8 0), (.int .u8 0), (.int .u8 0), (.int .u8 0), (.int .u8 0), (.slice none 0 0)]) := by kernel_rfl
theorem sz40 : szOf Try.prog 40 = some 35 := by kernel_rfl
theorem by40 : byOf Try.prog 40 = some 72 := by kernel_rfl
theorem ag40 : aggOf Try.prog 40 = some true := by kernel_rfl
theorem eg40 : Try.prog.eqGuardType Try.prog.depth 40 = false := by kernel_rfl
theorem si40 : Try.prog.stoodInHeld 40 = false := by kernel_rfl
theorem zr40 : zeroOf Try.prog 40 = some (.agg #[(.int .i64 0), (.int .i64 0), (.int .u8 0), (.int .u8 0), (.int .u8 0), (.int .u8 0), (.int .u8 0), (.int .u8 0), (.int .u8 0), (.int .u8 0), (.int .u8 0), (.int .u8 0), (.int .u8 0), (.int .u8 0), (.int .u8 0), (.int .u8 0), (.int .u8 0), (.int .u8 0), (.int .u8 0), (.int .u8 0), (.int .u8 0), (.int .u8 0), (.int .u8 0), (.int .u8 0), (.int .u8 0), (.int .u8 0), (.int .u8 0), (.int .u8 0), (.int .u8 0), (.int .u8 0), (.int .u8 0), (.int .u8 0), (.int .u8 0), (.int .u8 0), (.slice none 0 0)]) := by kernel_rfl
theorem sz41 : szOf Try.prog 41 = some 35 := by kernel_rfl
theorem by41 : byOf Try.prog 41 = some 72 := by kernel_rfl
theorem ag41 : aggOf Try.prog 41 = some true := by kernel_rfl
theorem eg41 : Try.prog.eqGuardType Try.prog.depth 41 = false := by kernel_rfl
theorem si41 : Try.prog.stoodInHeld 41 = false := by kernel_rfl
theorem zr41 : zeroOf Try.prog 41 = some (.agg #[(.int .i64 0), (.int .i64 0), (.int .u8 0), (.int .u8 0), (.int .u8 0), (.int .u8 0), (.int .u8 0), (.int .u8 0), (.int .u8 0), (.int .u8 0), (.int .u8 0), (.int .u8 0), (.int .u8 0), (.int .u8 0), (.int .u8 0), (.int .u8 0), (.int .u8 0), (.int .u8 0), (.int .u8 0), (.int .u8 0), (.int .u8 0), (.int .u8 0), (.int .u8 0), (.int .u8 0), (.int .u8 0), (.int .u8 0), (.int .u8 0), (.int .u8 0), (.int .u8 0), (.int .u8 0), (.int .u8 0), (.int .u8 0), (.int .u8 0), (.int .u8 0), (.slice none 0 0)]) := by kernel_rfl
theorem sz42 : szOf Try.prog 42 = some 1 := by kernel_rfl
theorem by42 : byOf Try.prog 42 = some 8 := by kernel_rfl
theorem ag42 : aggOf Try.prog 42 = some false := by kernel_rfl
theorem zr42 : zeroOf Try.prog 42 = some .nilFunc := by kernel_rfl
theorem sz43 : szOf Try.prog 43 = some 1 := by kernel_rfl
theorem by43 : byOf Try.prog 43 = some 8 := by kernel_rfl
theorem ag43 : aggOf Try.prog 43 = some false := by kernel_rfl
theorem zr43 : zeroOf Try.prog 43 = some .nilFunc := by kernel_rfl
theorem sz44 : szOf Try.prog 44 = some 1 := by kernel_rfl
theorem by44 : byOf Try.prog 44 = some 8 := by kernel_rfl
theorem ag44 : aggOf Try.prog 44 = some false := by kernel_rfl
theorem zr44 : zeroOf Try.prog 44 = some .nilFunc := by kernel_rfl
theorem sz45 : szOf Try.prog 45 = some 1 := by kernel_rfl
theorem by45 : byOf Try.prog 45 = some 8 := by kernel_rfl
theorem ag45 : aggOf Try.prog 45 = some false := by kernel_rfl
theorem zr45 : zeroOf Try.prog 45 = some .nilFunc := by kernel_rfl
theorem sz46 : szOf Try.prog 46 = some 1 := by kernel_rfl
theorem by46 : byOf Try.prog 46 = some 8 := by kernel_rfl
theorem ag46 : aggOf Try.prog 46 = some false := by kernel_rfl
theorem zr46 : zeroOf Try.prog 46 = some (.int .i64 0) := by kernel_rfl
theorem sz48 : szOf Try.prog 48 = some 1 := by kernel_rfl
theorem by48 : byOf Try.prog 48 = some 8 := by kernel_rfl
theorem ag48 : aggOf Try.prog 48 = some false := by kernel_rfl
theorem zr48 : zeroOf Try.prog 48 = some .nilFunc := by kernel_rfl
theorem sz49 : szOf Try.prog 49 = some 1 := by kernel_rfl
theorem by49 : byOf Try.prog 49 = some 8 := by kernel_rfl
theorem ag49 : aggOf Try.prog 49 = some false := by kernel_rfl
theorem zr49 : zeroOf Try.prog 49 = some .nilFunc := by kernel_rfl
theorem sz50 : szOf Try.prog 50 = some 1 := by kernel_rfl
theorem by50 : byOf Try.prog 50 = some 24 := by kernel_rfl
theorem ag50 : aggOf Try.prog 50 = some false := by kernel_rfl
theorem zr50 : zeroOf Try.prog 50 = some (.slice none 0 0) := by kernel_rfl
theorem sz51 : szOf Try.prog 51 = some 1 := by kernel_rfl
theorem by51 : byOf Try.prog 51 = some 8 := by kernel_rfl
theorem ag51 : aggOf Try.prog 51 = some false := by kernel_rfl
theorem zr51 : zeroOf Try.prog 51 = some .nilFunc := by kernel_rfl
theorem sz52 : szOf Try.prog 52 = some 1 := by kernel_rfl
theorem by52 : byOf Try.prog 52 = some 24 := by kernel_rfl
theorem ag52 : aggOf Try.prog 52 = some false := by kernel_rfl
theorem zr52 : zeroOf Try.prog 52 = some (.slice none 0 0) := by kernel_rfl
theorem sz53 : szOf Try.prog 53 = some 1 := by kernel_rfl
theorem by53 : byOf Try.prog 53 = some 8 := by kernel_rfl
theorem ag53 : aggOf Try.prog 53 = some false := by kernel_rfl
theorem zr53 : zeroOf Try.prog 53 = some .nilFunc := by kernel_rfl
theorem sz54 : szOf Try.prog 54 = some 1 := by kernel_rfl
theorem by54 : byOf Try.prog 54 = some 24 := by kernel_rfl
theorem ag54 : aggOf Try.prog 54 = some false := by kernel_rfl
theorem zr54 : zeroOf Try.prog 54 = some (.slice none 0 0) := by kernel_rfl
theorem sz55 : szOf Try.prog 55 = some 1 := by kernel_rfl
theorem by55 : byOf Try.prog 55 = some 8 := by kernel_rfl
theorem ag55 : aggOf Try.prog 55 = some false := by kernel_rfl
theorem zr55 : zeroOf Try.prog 55 = some .nilFunc := by kernel_rfl
theorem sz56 : szOf Try.prog 56 = some 1 := by kernel_rfl
theorem by56 : byOf Try.prog 56 = some 8 := by kernel_rfl
theorem ag56 : aggOf Try.prog 56 = some false := by kernel_rfl
theorem zr56 : zeroOf Try.prog 56 = some .nilFunc := by kernel_rfl
theorem sz57 : szOf Try.prog 57 = some 1 := by kernel_rfl
theorem by57 : byOf Try.prog 57 = some 8 := by kernel_rfl
theorem ag57 : aggOf Try.prog 57 = some false := by kernel_rfl
theorem zr57 : zeroOf Try.prog 57 = some (.int .u64 0) := by kernel_rfl
theorem sz58 : szOf Try.prog 58 = some 1 := by kernel_rfl
theorem by58 : byOf Try.prog 58 = some 8 := by kernel_rfl
theorem ag58 : aggOf Try.prog 58 = some false := by kernel_rfl
theorem zr58 : zeroOf Try.prog 58 = some .nilFunc := by kernel_rfl
theorem sz59 : szOf Try.prog 59 = some 1 := by kernel_rfl
theorem by59 : byOf Try.prog 59 = some 8 := by kernel_rfl
theorem ag59 : aggOf Try.prog 59 = some false := by kernel_rfl
theorem zr59 : zeroOf Try.prog 59 = some .nilFunc := by kernel_rfl
theorem sz60 : szOf Try.prog 60 = some 1 := by kernel_rfl
theorem by60 : byOf Try.prog 60 = some 8 := by kernel_rfl
theorem ag60 : aggOf Try.prog 60 = some false := by kernel_rfl
theorem zr60 : zeroOf Try.prog 60 = some (.pointer none) := by kernel_rfl
theorem sz61 : szOf Try.prog 61 = some 1 := by kernel_rfl
theorem by61 : byOf Try.prog 61 = some 8 := by kernel_rfl
theorem ag61 : aggOf Try.prog 61 = some false := by kernel_rfl
theorem zr61 : zeroOf Try.prog 61 = some .nilFunc := by kernel_rfl
theorem sz62 : szOf Try.prog 62 = some 1 := by kernel_rfl
theorem by62 : byOf Try.prog 62 = some 8 := by kernel_rfl
theorem ag62 : aggOf Try.prog 62 = some false := by kernel_rfl
theorem zr62 : zeroOf Try.prog 62 = some .nilFunc := by kernel_rfl
theorem sz63 : szOf Try.prog 63 = some 1 := by kernel_rfl
theorem by63 : byOf Try.prog 63 = some 24 := by kernel_rfl
theorem ag63 : aggOf Try.prog 63 = some false := by kernel_rfl
theorem zr63 : zeroOf Try.prog 63 = some (.slice none 0 0) := by kernel_rfl
theorem sz64 : szOf Try.prog 64 = some 1 := by kernel_rfl
theorem by64 : byOf Try.prog 64 = some 8 := by kernel_rfl
theorem ag64 : aggOf Try.prog 64 = some false := by kernel_rfl
theorem zr64 : zeroOf Try.prog 64 = some (.int .u64 0) := by kernel_rfl
theorem sz65 : szOf Try.prog 65 = some 1 := by kernel_rfl
theorem by65 : byOf Try.prog 65 = some 8 := by kernel_rfl
theorem ag65 : aggOf Try.prog 65 = some false := by kernel_rfl
theorem zr65 : zeroOf Try.prog 65 = some .nilFunc := by kernel_rfl
theorem sz66 : szOf Try.prog 66 = some 1 := by kernel_rfl
theorem by66 : byOf Try.prog 66 = some 8 := by kernel_rfl
theorem ag66 : aggOf Try.prog 66 = some false := by kernel_rfl
theorem zr66 : zeroOf Try.prog 66 = some .nilFunc := by kernel_rfl
theorem sz67 : szOf Try.prog 67 = some 1 := by kernel_rfl
theorem by67 : byOf Try.prog 67 = some 8 := by kernel_rfl
theorem ag67 : aggOf Try.prog 67 = some false := by kernel_rfl
theorem zr67 : zeroOf Try.prog 67 = some .nilFunc := by kernel_rfl
theorem sz68 : szOf Try.prog 68 = some 1 := by kernel_rfl
theorem by68 : byOf Try.prog 68 = some 8 := by kernel_rfl
theorem ag68 : aggOf Try.prog 68 = some false := by kernel_rfl
theorem zr68 : zeroOf Try.prog 68 = some .nilFunc := by kernel_rfl
theorem sz69 : szOf Try.prog 69 = some 1 := by kernel_rfl
theorem by69 : byOf Try.prog 69 = some 8 := by kernel_rfl
theorem ag69 : aggOf Try.prog 69 = some false := by kernel_rfl
theorem zr69 : zeroOf Try.prog 69 = some .nilFunc := by kernel_rfl
theorem sz70 : szOf Try.prog 70 = some 1 := by kernel_rfl
theorem by70 : byOf Try.prog 70 = some 24 := by kernel_rfl
theorem ag70 : aggOf Try.prog 70 = some false := by kernel_rfl
theorem zr70 : zeroOf Try.prog 70 = some (.slice none 0 0) := by kernel_rfl
theorem sz71 : szOf Try.prog 71 = some 1 := by kernel_rfl
theorem by71 : byOf Try.prog 71 = some 24 := by kernel_rfl
theorem ag71 : aggOf Try.prog 71 = some false := by kernel_rfl
theorem zr71 : zeroOf Try.prog 71 = some (.slice none 0 0) := by kernel_rfl
theorem sz72 : szOf Try.prog 72 = some 1 := by kernel_rfl
theorem by72 : byOf Try.prog 72 = some 8 := by kernel_rfl
theorem ag72 : aggOf Try.prog 72 = some false := by kernel_rfl
theorem zr72 : zeroOf Try.prog 72 = some .nilFunc := by kernel_rfl
theorem sz73 : szOf Try.prog 73 = some 10 := by kernel_rfl
theorem by73 : byOf Try.prog 73 = some 64 := by kernel_rfl
theorem ag73 : aggOf Try.prog 73 = some true := by kernel_rfl
theorem eg73 : Try.prog.eqGuardType Try.prog.depth 73 = false := by kernel_rfl
theorem si73 : Try.prog.stoodInHeld 73 = false := by kernel_rfl
theorem zr73 : zeroOf Try.prog 73 = some (.agg #[(.int .u32 0), (.int .u32 0), (.int .u32 0), (.int .u32 0), (.int .u32 0), (.int .u32 0), (.int .u32 0), (.int .u32 0), (.slice none 0 0), (.int .u64 0)]) := by kernel_rfl
theorem sz74 : szOf Try.prog 74 = some 10 := by kernel_rfl
theorem by74 : byOf Try.prog 74 = some 64 := by kernel_rfl
theorem ag74 : aggOf Try.prog 74 = some true := by kernel_rfl
theorem eg74 : Try.prog.eqGuardType Try.prog.depth 74 = false := by kernel_rfl
theorem si74 : Try.prog.stoodInHeld 74 = false := by kernel_rfl
theorem zr74 : zeroOf Try.prog 74 = some (.agg #[(.int .u32 0), (.int .u32 0), (.int .u32 0), (.int .u32 0), (.int .u32 0), (.int .u32 0), (.int .u32 0), (.int .u32 0), (.slice none 0 0), (.int .u64 0)]) := by kernel_rfl
theorem sz75 : szOf Try.prog 75 = some 1 := by kernel_rfl
theorem by75 : byOf Try.prog 75 = some 24 := by kernel_rfl
theorem ag75 : aggOf Try.prog 75 = some false := by kernel_rfl
theorem zr75 : zeroOf Try.prog 75 = some (.slice none 0 0) := by kernel_rfl
theorem sz76 : szOf Try.prog 76 = some 1 := by kernel_rfl
theorem by76 : byOf Try.prog 76 = some 8 := by kernel_rfl
theorem ag76 : aggOf Try.prog 76 = some false := by kernel_rfl
theorem zr76 : zeroOf Try.prog 76 = some .nilFunc := by kernel_rfl
theorem sz77 : szOf Try.prog 77 = some 1 := by kernel_rfl
theorem by77 : byOf Try.prog 77 = some 8 := by kernel_rfl
theorem ag77 : aggOf Try.prog 77 = some false := by kernel_rfl
theorem zr77 : zeroOf Try.prog 77 = some .nilFunc := by kernel_rfl
theorem sz78 : szOf Try.prog 78 = some 1 := by kernel_rfl
theorem by78 : byOf Try.prog 78 = some 8 := by kernel_rfl
theorem ag78 : aggOf Try.prog 78 = some false := by kernel_rfl
theorem zr78 : zeroOf Try.prog 78 = some .nilFunc := by kernel_rfl
theorem sz79 : szOf Try.prog 79 = some 1 := by kernel_rfl
theorem by79 : byOf Try.prog 79 = some 8 := by kernel_rfl
theorem ag79 : aggOf Try.prog 79 = some false := by kernel_rfl
theorem zr79 : zeroOf Try.prog 79 = some .nilFunc := by kernel_rfl
theorem sz80 : szOf Try.prog 80 = some 1 := by kernel_rfl
theorem by80 : byOf Try.prog 80 = some 8 := by kernel_rfl
theorem ag80 : aggOf Try.prog 80 = some false := by kernel_rfl
theorem zr80 : zeroOf Try.prog 80 = some .nilFunc := by kernel_rfl
theorem sz81 : szOf Try.prog 81 = some 1 := by kernel_rfl
theorem by81 : byOf Try.prog 81 = some 8 := by kernel_rfl
theorem ag81 : aggOf Try.prog 81 = some false := by kernel_rfl
theorem zr81 : zeroOf Try.prog 81 = some .nilFunc := by kernel_rfl
theorem sz82 : szOf Try.prog 82 = some 1 := by kernel_rfl
theorem by82 : byOf Try.prog 82 = some 8 := by kernel_rfl
theorem ag82 : aggOf Try.prog 82 = some false := by kernel_rfl
theorem zr82 : zeroOf Try.prog 82 = some .nilFunc := by kernel_rfl
theorem sz83 : szOf Try.prog 83 = some 1 := by kernel_rfl
theorem by83 : byOf Try.prog 83 = some 8 := by kernel_rfl
theorem ag83 : aggOf Try.prog 83 = some false := by kernel_rfl
theorem zr83 : zeroOf Try.prog 83 = some .nilFunc := by kernel_rfl
theorem sz84 : szOf Try.prog 84 = some 1 := by kernel_rfl
theorem by84 : byOf Try.prog 84 = some 8 := by kernel_rfl
theorem ag84 : aggOf Try.prog 84 = some false := by kernel_rfl
theorem zr84 : zeroOf Try.prog 84 = some .nilFunc := by kernel_rfl
theorem sz85 : szOf Try.prog 85 = some 1 := by kernel_rfl
theorem by85 : byOf Try.prog 85 = some 8 := by kernel_rfl
theorem ag85 : aggOf Try.prog 85 = some false := by kernel_rfl
theorem zr85 : zeroOf Try.prog 85 = some .nilFunc := by kernel_rfl
theorem sz86 : szOf Try.prog 86 = some 1 := by kernel_rfl
theorem by86 : byOf Try.prog 86 = some 8 := by kernel_rfl
theorem ag86 : aggOf Try.prog 86 = some false := by kernel_rfl
theorem zr86 : zeroOf Try.prog 86 = some .nilFunc := by kernel_rfl
theorem sz87 : szOf Try.prog 87 = some 1 := by kernel_rfl
theorem by87 : byOf Try.prog 87 = some 8 := by kernel_rfl
theorem ag87 : aggOf Try.prog 87 = some false := by kernel_rfl
theorem zr87 : zeroOf Try.prog 87 = some .nilFunc := by kernel_rfl
theorem sz88 : szOf Try.prog 88 = some 1 := by kernel_rfl
theorem by88 : byOf Try.prog 88 = some 8 := by kernel_rfl
theorem ag88 : aggOf Try.prog 88 = some false := by kernel_rfl
theorem zr88 : zeroOf Try.prog 88 = some .nilFunc := by kernel_rfl
theorem sz91 : szOf Try.prog 91 = some 0 := by kernel_rfl
theorem by91 : byOf Try.prog 91 = some 0 := by kernel_rfl
theorem ag91 : aggOf Try.prog 91 = some true := by kernel_rfl
theorem eg91 : Try.prog.eqGuardType Try.prog.depth 91 = false := by kernel_rfl
theorem zr91 : zeroOf Try.prog 91 = some (.agg #[]) := by kernel_rfl
theorem sz94 : szOf Try.prog 94 = some 1 := by kernel_rfl
theorem by94 : byOf Try.prog 94 = some 8 := by kernel_rfl
theorem ag94 : aggOf Try.prog 94 = some false := by kernel_rfl
theorem zr94 : zeroOf Try.prog 94 = some .nilFunc := by kernel_rfl
theorem sz97 : szOf Try.prog 97 = some 1 := by kernel_rfl
theorem by97 : byOf Try.prog 97 = some 8 := by kernel_rfl
theorem ag97 : aggOf Try.prog 97 = some false := by kernel_rfl
theorem zr97 : zeroOf Try.prog 97 = some .nilFunc := by kernel_rfl
theorem sz98 : szOf Try.prog 98 = some 1 := by kernel_rfl
theorem by98 : byOf Try.prog 98 = some 8 := by kernel_rfl
theorem ag98 : aggOf Try.prog 98 = some false := by kernel_rfl
theorem zr98 : zeroOf Try.prog 98 = some (.pointer none) := by kernel_rfl
theorem sz103 : szOf Try.prog 103 = some 1 := by kernel_rfl
theorem by103 : byOf Try.prog 103 = some 8 := by kernel_rfl
theorem ag103 : aggOf Try.prog 103 = some false := by kernel_rfl
theorem zr103 : zeroOf Try.prog 103 = some (.pointer none) := by kernel_rfl
theorem co5 : Try.prog.cellsOf 5 = 1 := by kernel_rfl
attribute [push_cast] sz1 by1 ag1 zr1 sz2 by2 ag2 zr2 sz3 by3 ag3 zr3 sz4 by4 ag4 zr4 sz5 by5 ag5 zr5 sz9 by9 ag9 zr9 sz12 by12 ag12 zr12 sz15 by15 ag15 zr15 sz16 by16 ag16 zr16 sz17 by17 ag17 zr17 sz20 by20 ag20 zr20 sz21 by21 ag21 zr21 sz22 by22 ag22 eg22 zr22 sz23 by23 ag23 zr23 sz24 by24 ag24 zr24 sz25 by25 ag25 zr25 sz26 by26 ag26 zr26 sz27 by27 ag27 zr27 sz28 by28 ag28 eg28 zr28 sz29 by29 ag29 eg29 zr29 sz30 by30 ag30 eg30 si30 zr30 sz31 by31 ag31 eg31 si31 zr31 sz32 by32 ag32 zr32 sz33 by33 ag33 zr33 sz34 by34 ag34 zr34 sz35 by35 ag35 zr35 sz36 by36 ag36 eg36 zr36 sz37 by37 ag37 zr37 sz38 by38 ag38 eg38 si38 zr38 sz39 by39 ag39 eg39 si39 zr39 sz40 by40 ag40 eg40 si40 zr40 sz41 by41 ag41 eg41 si41 zr41 sz42 by42 ag42 zr42 sz43 by43 ag43 zr43 sz44 by44 ag44 zr44 sz45 by45 ag45 zr45 sz46 by46 ag46 zr46 sz48 by48 ag48 zr48 sz49 by49 ag49 zr49 sz50 by50 ag50 zr50 sz51 by51 ag51 zr51 sz52 by52 ag52 zr52 sz53 by53 ag53 zr53 sz54 by54 ag54 zr54 sz55 by55 ag55 zr55 sz56 by56 ag56 zr56 sz57 by57 ag57 zr57 sz58 by58 ag58 zr58 sz59 by59 ag59 zr59 sz60 by60 ag60 zr60 sz61 by61 ag61 zr61 sz62 by62 ag62 zr62 sz63 by63 ag63 zr63 sz64 by64 ag64 zr64 sz65 by65 ag65 zr65 sz66 by66 ag66 zr66 sz67 by67 ag67 zr67 sz68 by68 ag68 zr68 sz69 by69 ag69 zr69 sz70 by70 ag70 zr70 sz71 by71 ag71 zr71 sz72 by72 ag72 zr72 sz73 by73 ag73 eg73 si73 zr73 sz74 by74 ag74 eg74 si74 zr74 sz75 by75 ag75 zr75 sz76 by76 ag76 zr76 sz77 by77 ag77 zr77 sz78 by78 ag78 zr78 sz79 by79 ag79 zr79 sz80 by80 ag80 zr80 sz81 by81 ag81 zr81 sz82 by82 ag82 zr82 sz83 by83 ag83 zr83 sz84 by84 ag84 zr84 sz85 by85 ag85 zr85 sz86 by86 ag86 zr86 sz87 by87 ag87 zr87 sz88 by88 ag88 zr88 sz91 by91 ag91 eg91 zr91 sz94 by94 ag94 zr94 sz97 by97 ag97 zr97 sz98 by98 ag98 zr98 sz103 by103 ag103 zr103 co5 Try.underlying0 Try.underlying1 Try.underlying2 Try.underlying3 Try.underlying4 Try.underlying5 Try.underlying6 Try.underlying7 Try.underlying8 Try.underlying9 Try.underlying10 Try.underlying11 Try.underlying12 Try.underlying13 Try.underlying14 Try.underlying15 Try.underlying16 Try.underlying17 Try.underlying18 Try.underlying19 Try.underlying20 Try.underlying21 Try.underlying22 Try.underlying23 Try.underlying24 Try.underlying25 Try.underlying26 Try.underlying27 Try.underlying28 Try.underlying29 Try.underlying30 Try.underlying31 Try.underlying32 Try.underlying33 Try.underlying34 Try.underlying35 Try.underlying36 Try.underlying37 Try.underlying38 Try.underlying39 Try.underlying40 Try.underlying41 Try.underlying42 Try.underlying43 Try.underlying44 Try.underlying45 Try.underlying46 Try.underlying47 Try.underlying48 Try.underlying49 Try.underlying50 Try.underlying51 Try.underlying52 Try.underlying53 Try.underlying54 Try.underlying55 Try.underlying56 Try.underlying57 Try.underlying58 Try.underlying59 Try.underlying60 Try.underlying61 Try.underlying62 Try.underlying63 Try.underlying64 Try.underlying65 Try.underlying66 Try.underlying67 Try.underlying68 Try.underlying69 Try.underlying70 Try.underlying71 Try.underlying72 Try.underlying73 Try.underlying74 Try.underlying75 Try.underlying76 Try.underlying77 Try.underlying78 Try.underlying79 Try.underlying80 Try.underlying81 Try.underlying82 Try.underlying83 Try.underlying84 Try.underlying85 Try.underlying86 Try.underlying87 Try.underlying88 Try.underlying89 Try.underlying90 Try.underlying91 Try.underlying92 Try.underlying93 Try.underlying94 Try.underlying95 Try.underlying96 Try.underlying97 Try.underlying98 Try.underlying99 Try.underlying100 Try.underlying101 Try.underlying102 Try.underlying103
end Go.Proofs.Ytmjbbnfmhgcfaaa
