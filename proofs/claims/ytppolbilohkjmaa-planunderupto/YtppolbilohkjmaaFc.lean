/-
  FACTS on the types of this seat's program, written by a program of mine (gen_facts.py).
-/
import Derived.Test.YtppolbilohkjmaaProg
import Derived.Test.YtppolbilohkjmaaEngN
set_option maxRecDepth 100000
namespace Go.Proofs.Ytppolbilohkjmaa
open Go Go.Eng
theorem fol : Try.prog.follows .mixedOrders = true := by kernel_rfl
theorem sz1 : szOf Try.prog 1 = some 1 := by kernel_rfl
theorem by1 : byOf Try.prog 1 = some 8 := by kernel_rfl
theorem ag1 : aggOf Try.prog 1 = some false := by kernel_rfl
theorem zr1 : zeroOf Try.prog 1 = some .nilFunc := by kernel_rfl
theorem sz2 : szOf Try.prog 2 = some 1 := by kernel_rfl
theorem by2 : byOf Try.prog 2 = some 8 := by kernel_rfl
theorem ag2 : aggOf Try.prog 2 = some false := by kernel_rfl
theorem zr2 : zeroOf Try.prog 2 = some (.int .i64 0) := by kernel_rfl
theorem sz3 : szOf Try.prog 3 = some 1 := by kernel_rfl
theorem by3 : byOf Try.prog 3 = some 8 := by kernel_rfl
theorem ag3 : aggOf Try.prog 3 = some false := by kernel_rfl
theorem zr3 : zeroOf Try.prog 3 = some (.int .i64 0) := by kernel_rfl
theorem sz4 : szOf Try.prog 4 = some 1 := by kernel_rfl
theorem by4 : byOf Try.prog 4 = some 1 := by kernel_rfl
theorem ag4 : aggOf Try.prog 4 = some false := by kernel_rfl
theorem zr4 : zeroOf Try.prog 4 = some (.bool false) := by kernel_rfl
theorem sz5 : szOf Try.prog 5 = some 1 := by kernel_rfl
theorem by5 : byOf Try.prog 5 = some 1 := by kernel_rfl
theorem ag5 : aggOf Try.prog 5 = some false := by kernel_rfl
theorem zr5 : zeroOf Try.prog 5 = some (.int .u8 0) := by kernel_rfl
theorem sz9 : szOf Try.prog 9 = some 1 := by kernel_rfl
theorem by9 : byOf Try.prog 9 = some 16 := by kernel_rfl
theorem ag9 : aggOf Try.prog 9 = some false := by kernel_rfl
theorem zr9 : zeroOf Try.prog 9 = some (.string ByteArray.empty) := by kernel_rfl
theorem sz12 : szOf Try.prog 12 = some 1 := by kernel_rfl
theorem by12 : byOf Try.prog 12 = some 8 := by kernel_rfl
theorem ag12 : aggOf Try.prog 12 = some false := by kernel_rfl
theorem zr12 : zeroOf Try.prog 12 = some (.int .u64 0) := by kernel_rfl
theorem sz15 : szOf Try.prog 15 = some 1 := by kernel_rfl
theorem by15 : byOf Try.prog 15 = some 8 := by kernel_rfl
theorem ag15 : aggOf Try.prog 15 = some false := by kernel_rfl
theorem zr15 : zeroOf Try.prog 15 = some (.pointer none) := by kernel_rfl
theorem sz16 : szOf Try.prog 16 = some 1 := by kernel_rfl
theorem by16 : byOf Try.prog 16 = some 8 := by kernel_rfl
theorem ag16 : aggOf Try.prog 16 = some false := by kernel_rfl
theorem zr16 : zeroOf Try.prog 16 = some (.pointer none) := by kernel_rfl
theorem sz17 : szOf Try.prog 17 = some 1 := by kernel_rfl
theorem by17 : byOf Try.prog 17 = some 8 := by kernel_rfl
theorem ag17 : aggOf Try.prog 17 = some false := by kernel_rfl
theorem zr17 : zeroOf Try.prog 17 = some (.pointer none) := by kernel_rfl
theorem sz20 : szOf Try.prog 20 = some 1 := by kernel_rfl
theorem by20 : byOf Try.prog 20 = some 16 := by kernel_rfl
theorem ag20 : aggOf Try.prog 20 = some false := by kernel_rfl
theorem zr20 : zeroOf Try.prog 20 = some .nilIface := by kernel_rfl
theorem sz21 : szOf Try.prog 21 = some 1 := by kernel_rfl
theorem by21 : byOf Try.prog 21 = some 4 := by kernel_rfl
theorem ag21 : aggOf Try.prog 21 = some false := by kernel_rfl
theorem zr21 : zeroOf Try.prog 21 = some (.int .i32 0) := by kernel_rfl
theorem sz22 : szOf Try.prog 22 = some 1 := by kernel_rfl
theorem by22 : byOf Try.prog 22 = some 24 := by kernel_rfl
theorem ag22 : aggOf Try.prog 22 = some false := by kernel_rfl
theorem zr22 : zeroOf Try.prog 22 = some (.slice none 0 0) := by kernel_rfl
theorem sz23 : szOf Try.prog 23 = some 1 := by kernel_rfl
theorem by23 : byOf Try.prog 23 = some 8 := by kernel_rfl
theorem ag23 : aggOf Try.prog 23 = some false := by kernel_rfl
theorem zr23 : zeroOf Try.prog 23 = some .nilFunc := by kernel_rfl
theorem sz24 : szOf Try.prog 24 = some 1 := by kernel_rfl
theorem by24 : byOf Try.prog 24 = some 8 := by kernel_rfl
theorem ag24 : aggOf Try.prog 24 = some false := by kernel_rfl
theorem zr24 : zeroOf Try.prog 24 = some .nilFunc := by kernel_rfl
theorem sz25 : szOf Try.prog 25 = some 1 := by kernel_rfl
theorem by25 : byOf Try.prog 25 = some 8 := by kernel_rfl
theorem ag25 : aggOf Try.prog 25 = some false := by kernel_rfl
theorem zr25 : zeroOf Try.prog 25 = some (.int .i64 0) := by kernel_rfl
theorem sz26 : szOf Try.prog 26 = some 1 := by kernel_rfl
theorem by26 : byOf Try.prog 26 = some 24 := by kernel_rfl
theorem ag26 : aggOf Try.prog 26 = some false := by kernel_rfl
theorem zr26 : zeroOf Try.prog 26 = some (.slice none 0 0) := by kernel_rfl
theorem sz27 : szOf Try.prog 27 = some 1 := by kernel_rfl
theorem by27 : byOf Try.prog 27 = some 8 := by kernel_rfl
theorem ag27 : aggOf Try.prog 27 = some false := by kernel_rfl
theorem zr27 : zeroOf Try.prog 27 = some .nilFunc := by kernel_rfl
theorem sz28 : szOf Try.prog 28 = some 1 := by kernel_rfl
theorem by28 : byOf Try.prog 28 = some 24 := by kernel_rfl
theorem ag28 : aggOf Try.prog 28 = some false := by kernel_rfl
theorem zr28 : zeroOf Try.prog 28 = some (.slice none 0 0) := by kernel_rfl
theorem sz30 : szOf Try.prog 30 = some 1 := by kernel_rfl
theorem by30 : byOf Try.prog 30 = some 8 := by kernel_rfl
theorem ag30 : aggOf Try.prog 30 = some false := by kernel_rfl
theorem zr30 : zeroOf Try.prog 30 = some .nilFunc := by kernel_rfl
theorem sz31 : szOf Try.prog 31 = some 1 := by kernel_rfl
theorem by31 : byOf Try.prog 31 = some 8 := by kernel_rfl
theorem ag31 : aggOf Try.prog 31 = some false := by kernel_rfl
theorem zr31 : zeroOf Try.prog 31 = some .nilFunc := by kernel_rfl
theorem sz32 : szOf Try.prog 32 = some 1 := by kernel_rfl
theorem by32 : byOf Try.prog 32 = some 8 := by kernel_rfl
theorem ag32 : aggOf Try.prog 32 = some false := by kernel_rfl
theorem zr32 : zeroOf Try.prog 32 = some .nilFunc := by kernel_rfl
theorem sz33 : szOf Try.prog 33 = some 1 := by kernel_rfl
theorem by33 : byOf Try.prog 33 = some 8 := by kernel_rfl
theorem ag33 : aggOf Try.prog 33 = some false := by kernel_rfl
theorem zr33 : zeroOf Try.prog 33 = some .nilFunc := by kernel_rfl
theorem sz34 : szOf Try.prog 34 = some 1 := by kernel_rfl
theorem by34 : byOf Try.prog 34 = some 24 := by kernel_rfl
theorem ag34 : aggOf Try.prog 34 = some false := by kernel_rfl
theorem zr34 : zeroOf Try.prog 34 = some (.slice none 0 0) := by kernel_rfl
theorem sz35 : szOf Try.prog 35 = some 1 := by kernel_rfl
theorem by35 : byOf Try.prog 35 = some 24 := by kernel_rfl
theorem ag35 : aggOf Try.prog 35 = some false := by kernel_rfl
theorem zr35 : zeroOf Try.prog 35 = some (.slice none 0 0) := by kernel_rfl
theorem sz36 : szOf Try.prog 36 = some 1 := by kernel_rfl
theorem by36 : byOf Try.prog 36 = some 8 := by kernel_rfl
theorem ag36 : aggOf Try.prog 36 = some false := by kernel_rfl
theorem zr36 : zeroOf Try.prog 36 = some .nilFunc := by kernel_rfl
theorem sz37 : szOf Try.prog 37 = some 1 := by kernel_rfl
theorem by37 : byOf Try.prog 37 = some 8 := by kernel_rfl
theorem ag37 : aggOf Try.prog 37 = some false := by kernel_rfl
theorem zr37 : zeroOf Try.prog 37 = some (.int .u64 0) := by kernel_rfl
theorem sz38 : szOf Try.prog 38 = some 1 := by kernel_rfl
theorem by38 : byOf Try.prog 38 = some 8 := by kernel_rfl
theorem ag38 : aggOf Try.prog 38 = some false := by kernel_rfl
theorem zr38 : zeroOf Try.prog 38 = some .nilFunc := by kernel_rfl
theorem sz39 : szOf Try.prog 39 = some 1 := by kernel_rfl
theorem by39 : byOf Try.prog 39 = some 8 := by kernel_rfl
theorem ag39 : aggOf Try.prog 39 = some false := by kernel_rfl
theorem zr39 : zeroOf Try.prog 39 = some .nilFunc := by kernel_rfl
theorem sz40 : szOf Try.prog 40 = some 1 := by kernel_rfl
theorem by40 : byOf Try.prog 40 = some 8 := by kernel_rfl
theorem ag40 : aggOf Try.prog 40 = some false := by kernel_rfl
theorem zr40 : zeroOf Try.prog 40 = some .nilFunc := by kernel_rfl
theorem sz41 : szOf Try.prog 41 = some 1 := by kernel_rfl
theorem by41 : byOf Try.prog 41 = some 8 := by kernel_rfl
theorem ag41 : aggOf Try.prog 41 = some false := by kernel_rfl
theorem zr41 : zeroOf Try.prog 41 = some .nilFunc := by kernel_rfl
theorem sz42 : szOf Try.prog 42 = some 1 := by kernel_rfl
theorem by42 : byOf Try.prog 42 = some 8 := by kernel_rfl
theorem ag42 : aggOf Try.prog 42 = some false := by kernel_rfl
theorem zr42 : zeroOf Try.prog 42 = some .nilFunc := by kernel_rfl
theorem sz43 : szOf Try.prog 43 = some 1 := by kernel_rfl
theorem by43 : byOf Try.prog 43 = some 8 := by kernel_rfl
theorem ag43 : aggOf Try.prog 43 = some false := by kernel_rfl
theorem zr43 : zeroOf Try.prog 43 = some .nilFunc := by kernel_rfl
theorem sz44 : szOf Try.prog 44 = some 1 := by kernel_rfl
theorem by44 : byOf Try.prog 44 = some 8 := by kernel_rfl
theorem ag44 : aggOf Try.prog 44 = some false := by kernel_rfl
theorem zr44 : zeroOf Try.prog 44 = some .nilFunc := by kernel_rfl
theorem sz45 : szOf Try.prog 45 = some 1 := by kernel_rfl
theorem by45 : byOf Try.prog 45 = some 8 := by kernel_rfl
theorem ag45 : aggOf Try.prog 45 = some false := by kernel_rfl
theorem zr45 : zeroOf Try.prog 45 = some .nilFunc := by kernel_rfl
theorem sz46 : szOf Try.prog 46 = some 1 := by kernel_rfl
theorem by46 : byOf Try.prog 46 = some 8 := by kernel_rfl
theorem ag46 : aggOf Try.prog 46 = some false := by kernel_rfl
theorem zr46 : zeroOf Try.prog 46 = some .nilFunc := by kernel_rfl
theorem sz47 : szOf Try.prog 47 = some 1 := by kernel_rfl
theorem by47 : byOf Try.prog 47 = some 8 := by kernel_rfl
theorem ag47 : aggOf Try.prog 47 = some false := by kernel_rfl
theorem zr47 : zeroOf Try.prog 47 = some .nilFunc := by kernel_rfl
theorem sz48 : szOf Try.prog 48 = some 1 := by kernel_rfl
theorem by48 : byOf Try.prog 48 = some 8 := by kernel_rfl
theorem ag48 : aggOf Try.prog 48 = some false := by kernel_rfl
theorem zr48 : zeroOf Try.prog 48 = some .nilFunc := by kernel_rfl
theorem sz49 : szOf Try.prog 49 = some 1 := by kernel_rfl
theorem by49 : byOf Try.prog 49 = some 8 := by kernel_rfl
theorem ag49 : aggOf Try.prog 49 = some false := by kernel_rfl
theorem zr49 : zeroOf Try.prog 49 = some .nilFunc := by kernel_rfl
theorem sz50 : szOf Try.prog 50 = some 1 := by kernel_rfl
theorem by50 : byOf Try.prog 50 = some 8 := by kernel_rfl
theorem ag50 : aggOf Try.prog 50 = some false := by kernel_rfl
theorem zr50 : zeroOf Try.prog 50 = some .nilFunc := by kernel_rfl
theorem sz51 : szOf Try.prog 51 = some 1 := by kernel_rfl
theorem by51 : byOf Try.prog 51 = some 8 := by kernel_rfl
theorem ag51 : aggOf Try.prog 51 = some false := by kernel_rfl
theorem zr51 : zeroOf Try.prog 51 = some .nilFunc := by kernel_rfl
theorem sz52 : szOf Try.prog 52 = some 1 := by kernel_rfl
theorem by52 : byOf Try.prog 52 = some 8 := by kernel_rfl
theorem ag52 : aggOf Try.prog 52 = some false := by kernel_rfl
theorem zr52 : zeroOf Try.prog 52 = some .nilFunc := by kernel_rfl
theorem sz53 : szOf Try.prog 53 = some 1 := by kernel_rfl
theorem by53 : byOf Try.prog 53 = some 8 := by kernel_rfl
theorem ag53 : aggOf Try.prog 53 = some false := by kernel_rfl
theorem zr53 : zeroOf Try.prog 53 = some .nilFunc := by kernel_rfl
theorem sz54 : szOf Try.prog 54 = some 1 := by kernel_rfl
theorem by54 : byOf Try.prog 54 = some 8 := by kernel_rfl
theorem ag54 : aggOf Try.prog 54 = some false := by kernel_rfl
theorem zr54 : zeroOf Try.prog 54 = some .nilFunc := by kernel_rfl
theorem sz57 : szOf Try.prog 57 = some 0 := by kernel_rfl
theorem by57 : byOf Try.prog 57 = some 0 := by kernel_rfl
theorem ag57 : aggOf Try.prog 57 = some true := by kernel_rfl
theorem eg57 : Try.prog.eqGuardType Try.prog.depth 57 = false := by kernel_rfl
theorem zr57 : zeroOf Try.prog 57 = some (.agg #[]) := by kernel_rfl
theorem sz60 : szOf Try.prog 60 = some 1 := by kernel_rfl
theorem by60 : byOf Try.prog 60 = some 4 := by kernel_rfl
theorem ag60 : aggOf Try.prog 60 = some false := by kernel_rfl
theorem zr60 : zeroOf Try.prog 60 = some (.int .u32 0) := by kernel_rfl
theorem sz63 : szOf Try.prog 63 = some 1 := by kernel_rfl
theorem by63 : byOf Try.prog 63 = some 8 := by kernel_rfl
theorem ag63 : aggOf Try.prog 63 = some false := by kernel_rfl
theorem zr63 : zeroOf Try.prog 63 = some .nilFunc := by kernel_rfl
theorem sz64 : szOf Try.prog 64 = some 1 := by kernel_rfl
theorem by64 : byOf Try.prog 64 = some 8 := by kernel_rfl
theorem ag64 : aggOf Try.prog 64 = some false := by kernel_rfl
theorem zr64 : zeroOf Try.prog 64 = some (.pointer none) := by kernel_rfl
theorem sz69 : szOf Try.prog 69 = some 1 := by kernel_rfl
theorem by69 : byOf Try.prog 69 = some 8 := by kernel_rfl
theorem ag69 : aggOf Try.prog 69 = some false := by kernel_rfl
theorem zr69 : zeroOf Try.prog 69 = some (.pointer none) := by kernel_rfl
attribute [push_cast] sz1 by1 ag1 zr1 sz2 by2 ag2 zr2 sz3 by3 ag3 zr3 sz4 by4 ag4 zr4 sz5 by5 ag5 zr5 sz9 by9 ag9 zr9 sz12 by12 ag12 zr12 sz15 by15 ag15 zr15 sz16 by16 ag16 zr16 sz17 by17 ag17 zr17 sz20 by20 ag20 zr20 sz21 by21 ag21 zr21 sz22 by22 ag22 zr22 sz23 by23 ag23 zr23 sz24 by24 ag24 zr24 sz25 by25 ag25 zr25 sz26 by26 ag26 zr26 sz27 by27 ag27 zr27 sz28 by28 ag28 zr28 sz30 by30 ag30 zr30 sz31 by31 ag31 zr31 sz32 by32 ag32 zr32 sz33 by33 ag33 zr33 sz34 by34 ag34 zr34 sz35 by35 ag35 zr35 sz36 by36 ag36 zr36 sz37 by37 ag37 zr37 sz38 by38 ag38 zr38 sz39 by39 ag39 zr39 sz40 by40 ag40 zr40 sz41 by41 ag41 zr41 sz42 by42 ag42 zr42 sz43 by43 ag43 zr43 sz44 by44 ag44 zr44 sz45 by45 ag45 zr45 sz46 by46 ag46 zr46 sz47 by47 ag47 zr47 sz48 by48 ag48 zr48 sz49 by49 ag49 zr49 sz50 by50 ag50 zr50 sz51 by51 ag51 zr51 sz52 by52 ag52 zr52 sz53 by53 ag53 zr53 sz54 by54 ag54 zr54 sz57 by57 ag57 eg57 zr57 sz60 by60 ag60 zr60 sz63 by63 ag63 zr63 sz64 by64 ag64 zr64 sz69 by69 ag69 zr69 Try.underlying0 Try.underlying1 Try.underlying2 Try.underlying3 Try.underlying4 Try.underlying5 Try.underlying6 Try.underlying7 Try.underlying8 Try.underlying9 Try.underlying10 Try.underlying11 Try.underlying12 Try.underlying13 Try.underlying14 Try.underlying15 Try.underlying16 Try.underlying17 Try.underlying18 Try.underlying19 Try.underlying20 Try.underlying21 Try.underlying22 Try.underlying23 Try.underlying24 Try.underlying25 Try.underlying26 Try.underlying27 Try.underlying28 Try.underlying29 Try.underlying30 Try.underlying31 Try.underlying32 Try.underlying33 Try.underlying34 Try.underlying35 Try.underlying36 Try.underlying37 Try.underlying38 Try.underlying39 Try.underlying40 Try.underlying41 Try.underlying42 Try.underlying43 Try.underlying44 Try.underlying45 Try.underlying46 Try.underlying47 Try.underlying48 Try.underlying49 Try.underlying50 Try.underlying51 Try.underlying52 Try.underlying53 Try.underlying54 Try.underlying55 Try.underlying56 Try.underlying57 Try.underlying58 Try.underlying59 Try.underlying60 Try.underlying61 Try.underlying62 Try.underlying63 Try.underlying64 Try.underlying65 Try.underlying66 Try.underlying67 Try.underlying68 Try.underlying69
end Go.Proofs.Ytppolbilohkjmaa
