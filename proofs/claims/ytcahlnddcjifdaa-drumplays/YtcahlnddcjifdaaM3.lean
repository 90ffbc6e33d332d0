/- Walks and facts of this seat's program over abstract states, printed by programs of mine; no conditions but those that each theorem names. -/
import Derived.Test.YtcahlnddcjifdaaM2
import Derived.Test.YtcahlnddcjifdaaProg
import Derived.ScopeJumps
import Derived.Scope
import Derived.JoinedCond
import Derived.LaidMore
import Derived.Stop.Joined
/-
  FACTS on the types of this seat's program, written by a program of mine (gen_facts.py).
-/
set_option maxRecDepth 100000
namespace Go.Proofs.Ytcahlnddcjifdaa
open Go Go.Eng
theorem fol : Try.prog.follows .mixedOrders = true := by kernel_rfl
theorem sz1 : szOf Try.prog 1 = some 1 := by kernel_rfl
theorem by1 : byOf Try.prog 1 = some 8 := by kernel_rfl
theorem ag1 : aggOf Try.prog 1 = some false := by kernel_rfl
theorem zr1 : zeroOf Try.prog 1 = some .nilFunc := by kernel_rfl
theorem sz2 : szOf Try.prog 2 = some 1 := by kernel_rfl
theorem by2 : byOf Try.prog 2 = some 8 := by kernel_rfl
theorem ag2 : aggOf Try.prog 2 = some false := by kernel_rfl
theorem zr2 : zeroOf Try.prog 2 = some (.int .i64 0) := by kernel_rfl
theorem sz3 : szOf Try.prog 3 = some 1 := by kernel_rfl
theorem by3 : byOf Try.prog 3 = some 8 := by kernel_rfl
theorem ag3 : aggOf Try.prog 3 = some false := by kernel_rfl
theorem zr3 : zeroOf Try.prog 3 = some (.int .i64 0) := by kernel_rfl
theorem sz4 : szOf Try.prog 4 = some 1 := by kernel_rfl
theorem by4 : byOf Try.prog 4 = some 1 := by kernel_rfl
theorem ag4 : aggOf Try.prog 4 = some false := by kernel_rfl
theorem zr4 : zeroOf Try.prog 4 = some (.bool false) := by kernel_rfl
theorem sz5 : szOf Try.prog 5 = some 1 := by kernel_rfl
theorem by5 : byOf Try.prog 5 = some 1 := by kernel_rfl
theorem ag5 : aggOf Try.prog 5 = some false := by kernel_rfl
theorem zr5 : zeroOf Try.prog 5 = some (.int .u8 0) := by kernel_rfl
theorem sz9 : szOf Try.prog 9 = some 1 := by kernel_rfl
theorem by9 : byOf Try.prog 9 = some 16 := by kernel_rfl
theorem ag9 : aggOf Try.prog 9 = some false := by kernel_rfl
theorem zr9 : zeroOf Try.prog 9 = some (.string ByteArray.empty) := by kernel_rfl
theorem sz12 : szOf Try.prog 12 = some 1 := by kernel_rfl
theorem by12 : byOf Try.prog 12 = some 8 := by kernel_rfl
theorem ag12 : aggOf Try.prog 12 = some false := by kernel_rfl
theorem zr12 : zeroOf Try.prog 12 = some (.int .u64 0) := by kernel_rfl
theorem sz15 : szOf Try.prog 15 = some 1 := by kernel_rfl
theorem by15 : byOf Try.prog 15 = some 8 := by kernel_rfl
theorem ag15 : aggOf Try.prog 15 = some false := by kernel_rfl
theorem zr15 : zeroOf Try.prog 15 = some (.pointer none) := by kernel_rfl
theorem sz16 : szOf Try.prog 16 = some 1 := by kernel_rfl
theorem by16 : byOf Try.prog 16 = some 8 := by kernel_rfl
theorem ag16 : aggOf Try.prog 16 = some false := by kernel_rfl
theorem zr16 : zeroOf Try.prog 16 = some (.pointer none) := by kernel_rfl
theorem sz17 : szOf Try.prog 17 = some 1 := by kernel_rfl
theorem by17 : byOf Try.prog 17 = some 8 := by kernel_rfl
theorem ag17 : aggOf Try.prog 17 = some false := by kernel_rfl
theorem zr17 : zeroOf Try.prog 17 = some (.pointer none) := by kernel_rfl
theorem sz20 : szOf Try.prog 20 = some 1 := by kernel_rfl
theorem by20 : byOf Try.prog 20 = some 16 := by kernel_rfl
theorem ag20 : aggOf Try.prog 20 = some false := by kernel_rfl
theorem zr20 : zeroOf Try.prog 20 = some .nilIface := by kernel_rfl
theorem sz21 : szOf Try.prog 21 = some 1 := by kernel_rfl
theorem by21 : byOf Try.prog 21 = some 4 := by kernel_rfl
theorem ag21 : aggOf Try.prog 21 = some false := by kernel_rfl
theorem zr21 : zeroOf Try.prog 21 = some (.int .i32 0) := by kernel_rfl
theorem sz22 : szOf Try.prog 22 = some 1 := by kernel_rfl
theorem by22 : byOf Try.prog 22 = some 24 := by kernel_rfl
theorem ag22 : aggOf Try.prog 22 = some false := by kernel_rfl
theorem zr22 : zeroOf Try.prog 22 = some (.slice none 0 0) := by kernel_rfl
theorem sz23 : szOf Try.prog 23 = some 1 := by kernel_rfl
theorem by23 : byOf Try.prog 23 = some 8 := by kernel_rfl
theorem ag23 : aggOf Try.prog 23 = some false := by kernel_rfl
theorem zr23 : zeroOf Try.prog 23 = some (.pointer none) := by kernel_rfl
theorem sz24 : szOf Try.prog 24 = some 1 := by kernel_rfl
theorem by24 : byOf Try.prog 24 = some 8 := by kernel_rfl
theorem ag24 : aggOf Try.prog 24 = some false := by kernel_rfl
theorem zr24 : zeroOf Try.prog 24 = some (.int .i64 0) := by kernel_rfl
theorem sz26 : szOf Try.prog 26 = some 1 := by kernel_rfl
theorem by26 : byOf Try.prog 26 = some 8 := by kernel_rfl
theorem ag26 : aggOf Try.prog 26 = some false := by kernel_rfl
theorem zr26 : zeroOf Try.prog 26 = some .nilFunc := by kernel_rfl
theorem sz27 : szOf Try.prog 27 = some 1 := by kernel_rfl
theorem by27 : byOf Try.prog 27 = some 8 := by kernel_rfl
theorem ag27 : aggOf Try.prog 27 = some false := by kernel_rfl
theorem zr27 : zeroOf Try.prog 27 = some .nilFunc := by kernel_rfl
theorem sz28 : szOf Try.prog 28 = some 128 := by kernel_rfl
theorem by28 : byOf Try.prog 28 = some 128 := by kernel_rfl
theorem ag28 : aggOf Try.prog 28 = some true := by kernel_rfl
theorem eg28 : Try.prog.eqGuardType Try.prog.depth 28 = false := by kernel_rfl
theorem zr28 : zeroOf Try.prog 28 = some (.agg #[(.int .u8 0), (.int .u8 0), (.int .u8 0), (.int .u8 0), (.int .u8 0), (.int .u8 0), (.int .u8 0), (.int .u8 0), (.int .u8 0), (.int .u8 0), (.int .u8 0), (.int .u8 0), (.int .u8 0), (.int .u8 0), (.int .u8 0), (.int .u8 0), (.int .u8 0), (.int .u8 0), (.int .u8 0), (.int .u8 0), (.int .u8 0), (.int .u8 0), (.int .u8 0), (.int .u8 0), (.int .u8 0), (.int .u8 0), (.int .u8 0), (.int .u8 0), (.int .u8 0), (.int .u8 0), (.int .u8 0), (.int .u8 0), (.int .u8 0), (.int .u8 0), (.int .u8 0), (.int .u8 0), (.int .u8 0), (.int .u8 0), (.int .u8 0), (.int .u8 0), (.int .u8 0), (.int .u8 0), (.int .u8 0), (.int .u8 0), (.int .u8 0), (.int .u8 0), (.int .u8 0), (.int .u8 0), (.int .u8 0), (.int .u8 0), (.int .u8 0), (.int .u8 0), (.int .u8 0), (.int .u8 0), (.int .u8 0), (.int .u8 0), (.int .u8 0), (.int .u8 0), (.int .u8 0), (.int .u8 0), (.int .u8 0), (.int .u8 0), (.int .u8 0), (.int .u8 0), (.int .u8 0), (.int .u8 0), (.int .u8 0), (.int .u8 0), (.int .u8 0), (.int .u8 0), (.int .u8 0), (.int .u8 0), (.int .u8 0), (.int .u8 0), (.int .u8 0), (.int .u8 0), (.int .u8 0), (.int .u8 0), (.int .u8 0), (.int .u8 0), (.int .u8 0), (.int .u8 0), (.int .u8 0), (.int .u8 0), (.int .u8 0), (.int .u8 0), (.int .u8 0), (.int .u8 0), (.int .u8 0), (.int .u8 0), (.int .u8 0), (.int .u8 0), (.int .u8 0), (.int .u8 0), (.int .u8 0), (.int .u8 0), (.int .u8 0), (.int .u8 0), (.int .u8 0), (.int .u8 0), (.int .u8 0), (.int .u8 0), (.int .u8 0), (.int .u8 0), (.int .u8 0), (.int .u8 0), (.int .u8 0), (.int .u8 0), (.int .u8 0), (.int .u8 0), (.int .u8 0), (.int .u8 0), (.int .u8 0), (.int .u8 0), (.int .u8 0), (.int .u8 0), (.int .u8 0), (.int .u8 0), (.int .u8 0), (.int .u8 0), (.int .u8 0), (.int .u8 0), (.int .u8 0), (.int .u8 0), (.int .u8 0), (.int .u8 0), (.int .u8 0), (.int .u8 0)]) := by kernel_rfl
theorem sz29 : szOf Try.prog 29 = some 128 := by kernel_rfl
theorem by29 : byOf Try.prog 29 = some 128 := by kernel_rfl
theorem ag29 : aggOf Try.prog 29 = some true := by kernel_rfl
theorem eg29 : Try.prog.eqGuardType Try.prog.depth 29 = false := by kernel_rfl
theorem zr29 : zeroOf Try.prog 29 = some (.agg #[(.int .u8 0), (.int .u8 0), (.int .u8 0), (.int .u8 0), (.int .u8 0), (.int .u8 0), (.int .u8 0), (.int .u8 0), (.int .u8 0), (.int .u8 0), (.int .u8 0), (.int .u8 0), (.int .u8 0), (.int .u8 0), (.int .u8 0), (.int .u8 0), (.int .u8 0), (.int .u8 0), (.int .u8 0), (.int .u8 0), (.int .u8 0), (.int .u8 0), (.int .u8 0), (.int .u8 0), (.int .u8 0), (.int .u8 0), (.int .u8 0), (.int .u8 0), (.int .u8 0), (.int .u8 0), (.int .u8 0), (.int .u8 0), (.int .u8 0), (.int .u8 0), (.int .u8 0), (.int .u8 0), (.int .u8 0), (.int .u8 0), (.int .u8 0), (.int .u8 0), (.int .u8 0), (.int .u8 0), (.int .u8 0), (.int .u8 0), (.int .u8 0), (.int .u8 0), (.int .u8 0), (.int .u8 0), (.int .u8 0), (.int .u8 0), (.int .u8 0), (.int .u8 0), (.int .u8 0), (.int .u8 0), (.int .u8 0), (.int .u8 0), (.int .u8 0), (.int .u8 0), (.int .u8 0), (.int .u8 0), (.int .u8 0), (.int .u8 0), (.int .u8 0), (.int .u8 0), (.int .u8 0), (.int .u8 0), (.int .u8 0), (.int .u8 0), (.int .u8 0), (.int .u8 0), (.int .u8 0), (.int .u8 0), (.int .u8 0), (.int .u8 0), (.int .u8 0), (.int .u8 0), (.int .u8 0), (.int .u8 0), (.int .u8 0), (.int .u8 0), (.int .u8 0), (.int .u8 0), (.int .u8 0), (.int .u8 0), (.int .u8 0), (.int .u8 0), (.int .u8 0), (.int .u8 0), (.int .u8 0), (.int .u8 0), (.int .u8 0), (.int .u8 0), (.int .u8 0), (.int .u8 0), (.int .u8 0), (.int .u8 0), (.int .u8 0), (.int .u8 0), (.int .u8 0), (.int .u8 0), (.int .u8 0), (.int .u8 0), (.int .u8 0), (.int .u8 0), (.int .u8 0), (.int .u8 0), (.int .u8 0), (.int .u8 0), (.int .u8 0), (.int .u8 0), (.int .u8 0), (.int .u8 0), (.int .u8 0), (.int .u8 0), (.int .u8 0), (.int .u8 0), (.int .u8 0), (.int .u8 0), (.int .u8 0), (.int .u8 0), (.int .u8 0), (.int .u8 0), (.int .u8 0), (.int .u8 0), (.int .u8 0), (.int .u8 0), (.int .u8 0), (.int .u8 0)]) := by kernel_rfl
theorem sz30 : szOf Try.prog 30 = some 768 := by kernel_rfl
theorem by30 : byOf Try.prog 30 = some 768 := by kernel_rfl
theorem ag30 : aggOf Try.prog 30 = some true := by kernel_rfl
theorem eg30 : Try.prog.eqGuardType Try.prog.depth 30 = false := by kernel_rfl
theorem zr30 : zeroOf Try.prog 30 = some (.agg #[(.int .u8 0), (.int .u8 0), (.int .u8 0), (.int .u8 0), (.int .u8 0), (.int .u8 0), (.int .u8 0), (.int .u8 0), (.int .u8 0), (.int .u8 0), (.int .u8 0), (.int .u8 0), (.int .u8 0), (.int .u8 0), (.int .u8 0), (.int .u8 0), (.int .u8 0), (.int .u8 0), (.int .u8 0), (.int .u8 0), (.int .u8 0), (.int .u8 0), (.int .u8 0), (.int .u8 0), (.int .u8 0), (.int .u8 0), (.int .u8 0), (.int .u8 0), (.int .u8 0), (.int .u8 0), (.int .u8 0), (.int .u8 0), (.int .u8 0), (.int .u8 0), (.int .u8 0), (.int .u8 0), (.int .u8 0), (.int .u8 0), (.int .u8 0), (.int .u8 0), (.int .u8 0), (.int .u8 0), (.int .u8 0), (.int .u8 0), (.int .u8 0), (.int .u8 0), (.int .u8 0), (.int .u8 0), (.int .u8 0), (.int .u8 0), (.int .u8 0), (.int .u8 0), (.int .u8 0), (.int .u8 0), (.int .u8 0), (.int .u8 0), (.int .u8 0), (.int .u8 0), (.int .u8 0), (.int .u8 0), (.int .u8 0), (.int .u8 0), (.int .u8 0), (.int .u8 0), (.int .u8 0), (.int .u8 0), (.int .u8 0), (.int .u8 0), (.int .u8 0), (.int .u8 0), (.int .u8 0), (.int .u8 0), (.int .u8 0), (.int .u8 0), (.int .u8 0), (.int .u8 0), (.int .u8 0), (.int .u8 0), (.int .u8 0), (.int .u8 0), (.int .u8 0), (.int .u8 0), (.int .u8 0), (.int .u8 0), (.int .u8 0), (.int .u8 0), (.int .u8 0), (.int .u8 0), (.int .u8 0), (.int .u8 0), (.int .u8 0), (.int .u8 0), (.int .u8 0), (.int .u8 0), (.int .u8 0), (.int .u8 0), (.int .u8 0), (.int .u8 0), (.int .u8 0), (.int .u8 0), (.int .u8 0), (.int .u8 0), (.int .u8 0), (.int .u8 0), (.int .u8 0), (.int .u8 0), (.int .u8 0), (.int .u8 0), (.int .u8 0), (.int .u8 0), (.int .u8 0), (.int .u8 0), (.int .u8 0), (.int .u8 0), (.int .u8 0), (.int .u8 0), (.int .u8 0), (.int .u8 0), (.int .u8 0), (.int .u8 0), (.int .u8 0), (.int .u8 0), (.int .u8 0), (.int .u8 0), (.int .u8 0), (.int .u8 0), (.int .u8 0), (.int .u8 0), (.int .u8 0), (.int .u8 0), (.int .u8 0), (.int .u8 0), (.int .u8 0), (.int .u8 0), (.int .u8 0), (.int .u8 0), (.int .u8 0), (.int .u8 0), (.int .u8 0), (.int .u8 0), (.int .u8 0), (.int .u8 0), (.int .u8 0), (.int .u8 0), (.int .u8 0), (.int .u8 0), (.int .u8 0), (.int .u8 0), (.int .u8 0), (.int .u8 0), (.int .u8 0), (.int .u8 0), (.int .u8 0), (.int .u8 0), (.int .u8 0), (.int .u8 0), (.int .u8 0), (.int .u8 0), (.int .u8 0), (.int .u8 0), (.int .u8 0), (.int .u8 0), (.int .u8 0), (.int .u8 0), (.int .u8 0), (.int .u8 0), (.int .u8 0), (.int .u8 0), (.int .u8 0), (.int .u8 0), (.int .u8 0), (.int .u8 0), (.int .u8 0), (.int .u8 0), (.int .u8 0), (.int .u8 0), (.int .u8 0), (.int .u8 0), (.int .u8 0), (.int .u8 0), (.int .u8 0), (.int .u8 0), (.int .u8 0), (.int .u8 0), (.int .u8 0), (.int .u8 0), (.int .u8 0), (.int .u8 0), (.int .u8 0), (.int .u8 0), (.int .u8 0), (.int .u8 0), (.int .u8 0), (.int .u8 0), (.int .u8 0), (.int .u8 0), (.int .u8 0), (.int .u8 0), (.int .u8 0), (.int .u8 0), (.int .u8 0), (.int .u8 0), (.int .u8 0), (.int .u8 0), (.int .u8 0), (.int .u8 0), (.int .u8 0), (.int .u8 0), (.int .u8 0), (.int .u8 0), (.int .u8 0), (.int .u8 0), (.int .u8 0), (.int .u8 0), (.int .u8 0), (.int .u8 0), (.int .u8 0), (.int .u8 0), (.int .u8 0), (.int .u8 0), (.int .u8 0), (.int .u8 0), (.int .u8 0), (.int .u8 0), (.int .u8 0), (.int .u8 0), (.int .u8 0), (.int .u8 0), (.int .u8 0), (.int .u8 0), (.int .u8 0), (.int .u8 0), (.int .u8 0), (.int .u8 0), (.int .u8 0), (.int .u8 0), (.int .u8 0), (.int .u8 0), (.int .u8 0), (.int .u8 0), (.int .u8 0), (.int .u8 0), (.int .u8 0), (.int .u8 0), (.int .u8 0), (.int .u8 0), (.int .u8 0), (.int .u8 0), (.int .u8 0), (.int .u8 0), (.int .u8 0), (.int .u8 0), (.int .u8 0), (.int .u8 0), (.int .u8 0), (.int .u8 0), (.int .u8 0), (.int .u8 0), (.int .u8 0), (.int .u8 0), (.int .u8 0), (.int .u8 0), (.int .u8 0), (.int .u8 0), (.int .u8 0), (.int .u8 0), (.int .u8 0), (.int .u8 0), (.int .u8 0), (.int .u8 0), (.int .u8 0), (.int .u8 0), (.int .u8 0), (.int .u8 0), (.int .u8 0), (.int .u8 0), (.int .u8 0), (.int .u8 0), (.int .u8 0), (.int .u8 0), (.int .u8 0), (.int .u8 0), (.int .u8 0), (.int .u8 0), (.int .u8 0), (.int .u8 0), (.int .u8 0), (.int .u8 0), (.int .u8 0), (.int .u8 0), (.int .u8 0), (.int .u8 0), (.int .u8 0), (.int .u8 0), (.int .u8 0), (.int .u8 0), (.int .u8 0), (.int .u8 0), (.int .u8 0), (.int .u8 0), (.int .u8 0), (.int .u8 0), (.int .u8 0), (.int .u8 0), (.int .u8 0), (.int .u8 0), (.int .u8 0), (.int .u8 0), (.int .u8 0), (.int .u8 0), (.int .u8 0), (.int .u8 0), (.int .u8 0), (.int .u8 0), (.int .u8 0), (.int .u8 0), (.int .u8 0), (.int .u8 0), (.int .u8 0), (.int .u8 0), (.int .u8 0), (.int .u8 0), (.int .u8 0), (.int .u8 0), (.int .u8 0), (.int .u8 0), (.int .u8 0), (.int .u8 0), (.int .u8 0), (.int .u8 0), (.int .u8 0), (.int .u8 0), (.int .u8 0), (.int .u8 0), (.int .u8 0), (.int .u8 0), (.int .u8 0), (.int .u8 0), (.int .u8 0), (.int .u8 0), (.int .u8 0), (.int .u8 0), (.int .u8 0), (.int .u8 0), (.int .u8 0), (.int .u8 0), (.int .u8 0), (.int .u8 0), (.int .u8 0), (.int .u8 0), (.int .u8 0), (.int .u8 0), (.int .u8 0), (.int .u8 0), (.int .u8 0), (.int .u8 0), (.int .u8 0), (.int .u8 0), (.int .u8 0), (.int .u8 0), (.int .u8 0), (.int .u8 0), (.int .u8 0), (.int .u8 0), (.int .u8 0), (.int .u8 0), (.int .u8 0), (.int .u8 0), (.int .u8 0), (.int .u8 0), (.int .u8 0), (.int .u8 0), (.int .u8 0), (.int .u8 0), (.int .u8 0), (.int .u8 0), (.int .u8 0), (.int .u8 0), (.int .u8 0), (.int .u8 0), (.int .u8 0), (.int .u8 0), (.int .u8 0), (.int .u8 0), (.int .u8 0), (.int .u8 0), (.int .u8 0), (.int .u8 0), (.int .u8 0), (.int .u8 0), (.int .u8 0), (.int .u8 0), (.int .u8 0), (.int .u8 0), (.int .u8 0), (.int .u8 0), (.int .u8 0), (.int .u8 0), (.int .u8 0), (.int .u8 0), (.int .u8 0), (.int .u8 0), (.int .u8 0), (.int .u8 0), (.int .u8 0), (.int .u8 0), (.int .u8 0), (.int .u8 0), (.int .u8 0), (.int .u8 0), (.int .u8 0), (.int .u8 0), (.int .u8 0), (.int .u8 0), (.int .u8 0), (.int .u8 0), (.int .u8 0), (.int .u8 0), (.int .u8 0), (.int .u8 0), (.int .u8 0), (.int .u8 0), (.int .u8 0), (.int .u8 0), (.int .u8 0), (.int .u8 0), (.int .u8 0), (.int .u8 0), (.int .u8 0), (.int .u8 0), (.int .u8 0), (.int .u8 0), (.int .u8 0), (.int .u8 0), (.int .u8 0), (.int .u8 0), (.int .u8 0), (.int .u8 0), (.int .u8 0), (.int .u8 0), (.int .u8 0), (.int .u8 0), (.int .u8 0), (.int .u8 0), (.int .u8 0), (.int .u8 0), (.int .u8 0), (.int .u8 0), (.int .u8 0), (.int .u8 0), (.int .u8 0), (.int .u8 0), (.int .u8 0), (.int .u8 0), (.int .u8 0), (.int .u8 0), (.int .u8 0), (.int .u8 0), (.int .u8 0), (.int .u8 0), (.int .u8 0), (.int .u8 0), (.int .u8 0), (.int .u8 0), (.int .u8 0), (.int .u8 0), (.int .u8 0), (.int .u8 0), (.int .u8 0), (.int .u8 0), (.int .u8 0), (.int .u8 0), (.int .u8 0), (.int .u8 0), (.int .u8 0), (.int .u8 0), (.int .u8 0), (.int .u8 0), (.int .u8 0), (.int .u8 0), (.int .u8 0), (.int .u8 0), (.int .u8 0), (.int .u8 0), (.int .u8 0), (.int .u8 0), (.int .u8 0), (.int .u8 0), (.int .u8 0), (.int .u8 0), (.int .u8 0), (.int .u8 0), (.int .u8 0), (.int .u8 0), (.int .u8 0), (.int .u8 0), (.int .u8 0), (.int .u8 0), (.int .u8 0), (.int .u8 0), (.int .u8 0), (.int .u8 0), (.int .u8 0), (.int .u8 0), (.int .u8 0), (.int .u8 0), (.int .u8 0), (.int .u8 0), (.int .u8 0), (.int .u8 0), (.int .u8 0), (.int .u8 0), (.int .u8 0), (.int .u8 0), (.int .u8 0), (.int .u8 0), (.int .u8 0), (.int .u8 0), (.int .u8 0), (.int .u8 0), (.int .u8 0), (.int .u8 0), (.int .u8 0), (.int .u8 0), (.int .u8 0), (.int .u8 0), (.int .u8 0), (.int .u8 0), (.int .u8 0), (.int .u8 0), (.int .u8 0), (.int .u8 0), (.int .u8 0), (.int .u8 0), (.int .u8 0), (.int .u8 0), (.int .u8 0), (.int .u8 0), (.int .u8 0), (.int .u8 0), (.int .u8 0), (.int .u8 0), (.int .u8 0), (.int .u8 0), (.int .u8 0), (.int .u8 0), (.int .u8 0), (.int .u8 0), (.int .u8 0), (.int .u8 0), (.int .u8 0), (.int .u8 0), (.int .u8 0), (.int .u8 0), (.int .u8 0), (.int .u8 0), (.int .u8 0), (.int .u8 0), (.int .u8 0), (.int .u8 0), (.int .u8 0), (.int .u8 0), (.int .u8 0), (.int .u8 0), (.int .u8 0), (.int .u8 0), (.int .u8 0), (.int .u8 0), (.int .u8 0), (.int .u8 0), (.int .u8 0), (.int .u8 0), (.int .u8 0), (.int .u8 0), (.int .u8 0), (.int .u8 0), (.int .u8 0), (.int .u8 0), (.int .u8 0), (.int .u8 0), (.int .u8 0), (.int .u8 0), (.int .u8 0), (.int .u8 0), (.int .u8 0), (.int .u8 0), (.int .u8 0), (.int .u8 0), (.int .u8 0), (.int .u8 0), (.int .u8 0), (.int .u8 0), (.int .u8 0), (.int .u8 0), (.int .u8 0), (.int .u8 0), (.int .u8 0), (.int .u8 0), (.int .u8 0), (.int .u8 0), (.int .u8 0), (.int .u8 0), (.int .u8 0), (.int .u8 0), (.int .u8 0), (.int .u8 0), (.int .u8 0), (.int .u8 0), (.int .u8 0), (.int .u8 0), (.int .u8 0), (.int .u8 0), (.int .u8 0), (.int .u8 0), (.int .u8 0), (.int .u8 0), (.int .u8 0), (.int .u8 0), (.int .u8 0), (.int .u8 0), (.int .u8 0), (.int .u8 0), (.int .u8 0), (.int .u8 0), (.int .u8 0), (.int .u8 0), (.int .u8 0), (.int .u8 0), (.int .u8 0), (.int .u8 0), (.int .u8 0), (.int .u8 0), (.int .u8 0), (.int .u8 0), (.int .u8 0), (.int .u8 0), (.int .u8 0), (.int .u8 0), (.int .u8 0), (.int .u8 0), (.int .u8 0), (.int .u8 0), (.int .u8 0), (.int .u8 0), (.int .u8 0), (.int .u8 0), (.int .u8 0), (.int .u8 0), (.int .u8 0), (.int .u8 0), (.int .u8 0), (.int .u8 0), (.int .u8 0), (.int .u8 0), (.int .u8 0), (.int .u8 0), (.int .u8 0), (.int .u8 0), (.int .u8 0), (.int .u8 0), (.int .u8 0), (.int .u8 0), (.int .u8 0), (.int .u8 0), (.int .u8 0), (.int .u8 0), (.int .u8 0), (.int .u8 0), (.int .u8 0), (.int .u8 0), (.int .u8 0), (.int .u8 0), (.int .u8 0), (.int .u8 0), (.int .u8 0), (.int .u8 0), (.int .u8 0), (.int .u8 0), (.int .u8 0), (.int .u8 0), (.int .u8 0), (.int .u8 0), (.int .u8 0), (.int .u8 0), (.int .u8 0), (.int .u8 0), (.int .u8 0), (.int .u8 0), (.int .u8 0), (.int .u8 0), (.int .u8 0), (.int .u8 0), (.int .u8 0), (.int .u8 0), (.int .u8 0), (.int .u8 0), (.int .u8 0), (.int .u8 0), (.int .u8 0), (.int .u8 0), (.int .u8 0), (.int .u8 0), (.int .u8 0), (.int .u8 0), (.int .u8 0), (.int .u8 0), (.int .u8 0), (.int .u8 0), (.int .u8 0), (.int .u8 0), (.int .u8 0), (.int .u8 0), (.int .u8 0), (.int .u8 0), (.int .u8 0), (.int .u8 0), (.int .u8 0), (.int .u8 0), (.int .u8 0), (.int .u8 0), (.int .u8 0), (.int .u8 0), (.int .u8 0), (.int .u8 0), (.int .u8 0), (.int .u8 0), (.int .u8 0), (.int .u8 0), (.int .u8 0), (.int .u8 0), (.int .u8 0), (.int .u8 0), (.int .u8 0), (.int .u8 0), (.int .u8 0), (.int .u8 0), (.int .u8 0), (.int .u8 0), (.int .u8 0), (.int .u8 0), (.int .u8 0), (.int .u8 0), (.int .u8 0), (.int .u8 0), (.int .u8 0), (.int .u8 0), (.int .u8 0), (.int .u8 0), (.int .u8 0), (.int .u8 0), (.int .u8 0), (.int .u8 0), (.int .u8 0), (.int .u8 0), (.int .u8 0), (.int .u8 0), (.int .u8 0), (.int .u8 0), (.int .u8 0), (.int .u8 0), (.int .u8 0), (.int .u8 0), (.int .u8 0), (.int .u8 0), (.int .u8 0), (.int .u8 0), (.int .u8 0), (.int .u8 0)]) := by kernel_rfl
theorem sz31 : szOf Try.prog 31 = some 1 := by kernel_rfl
theorem by31 : byOf Try.prog 31 = some 24 := by kernel_rfl
theorem ag31 : aggOf Try.prog 31 = some false := by kernel_rfl
theorem zr31 : zeroOf Try.prog 31 = some (.slice none 0 0) := by kernel_rfl
theorem sz32 : szOf Try.prog 32 = some 132 := by kernel_rfl
theorem by32 : byOf Try.prog 32 = some 176 := by kernel_rfl
theorem ag32 : aggOf Try.prog 32 = some true := by kernel_rfl
theorem eg32 : Try.prog.eqGuardType Try.prog.depth 32 = false := by kernel_rfl
theorem si32 : Try.prog.stoodInHeld 32 = false := by kernel_rfl
theorem zr32 : zeroOf Try.prog 32 = some (.agg #[(.int .i64 0), (.int .i64 0), (.int .i64 0), (.int .u8 0), (.int .u8 0), (.int .u8 0), (.int .u8 0), (.int .u8 0), (.int .u8 0), (.int .u8 0), (.int .u8 0), (.int .u8 0), (.int .u8 0), (.int .u8 0), (.int .u8 0), (.int .u8 0), (.int .u8 0), (.int .u8 0), (.int .u8 0), (.int .u8 0), (.int .u8 0), (.int .u8 0), (.int .u8 0), (.int .u8 0), (.int .u8 0), (.int .u8 0), (.int .u8 0), (.int .u8 0), (.int .u8 0), (.int .u8 0), (.int .u8 0), (.int .u8 0), (.int .u8 0), (.int .u8 0), (.int .u8 0), (.int .u8 0), (.int .u8 0), (.int .u8 0), (.int .u8 0), (.int .u8 0), (.int .u8 0), (.int .u8 0), (.int .u8 0), (.int .u8 0), (.int .u8 0), (.int .u8 0), (.int .u8 0), (.int .u8 0), (.int .u8 0), (.int .u8 0), (.int .u8 0), (.int .u8 0), (.int .u8 0), (.int .u8 0), (.int .u8 0), (.int .u8 0), (.int .u8 0), (.int .u8 0), (.int .u8 0), (.int .u8 0), (.int .u8 0), (.int .u8 0), (.int .u8 0), (.int .u8 0), (.int .u8 0), (.int .u8 0), (.int .u8 0), (.int .u8 0), (.int .u8 0), (.int .u8 0), (.int .u8 0), (.int .u8 0), (.int .u8 0), (.int .u8 0), (.int .u8 0), (.int .u8 0), (.int .u8 0), (.int .u8 0), (.int .u8 0), (.int .u8 0), (.int .u8 0), (.int .u8 0), (.int .u8 0), (.int .u8 0), (.int .u8 0), (.int .u8 0), (.int .u8 0), (.int .u8 0), (.int .u8 0), (.int .u8 0), (.int .u8 0), (.int .u8 0), (.int .u8 0), (.int .u8 0), (.int .u8 0), (.int .u8 0), (.int .u8 0), (.int .u8 0), (.int .u8 0), (.int .u8 0), (.int .u8 0), (.int .u8 0), (.int .u8 0), (.int .u8 0), (.int .u8 0), (.int .u8 0), (.int .u8 0), (.int .u8 0), (.int .u8 0), (.int .u8 0), (.int .u8 0), (.int .u8 0), (.int .u8 0), (.int .u8 0), (.int .u8 0), (.int .u8 0), (.int .u8 0), (.int .u8 0), (.int .u8 0), (.int .u8 0), (.int .u8 0), (.int .u8 0), (.int .u8 0), (.int .u8 0), (.int .u8 0), (.int .u8 0), (.int .u8 0), (.int .u8 0), (.int .u8 0), (.int .u8 0), (.int .u8 0), (.slice none 0 0)]) := by kernel_rfl
theorem sz33 : szOf Try.prog 33 = some 132 := by kernel_rfl
theorem by33 : byOf Try.prog 33 = some 176 := by kernel_rfl
theorem ag33 : aggOf Try.prog 33 = some true := by kernel_rfl
theorem eg33 : Try.prog.eqGuardType Try.prog.depth 33 = false := by kernel_rfl
theorem si33 : Try.prog.stoodInHeld 33 = false := by kernel_rfl
theorem zr33 : zeroOf Try.prog 33 = some (.agg #[(.int .i64 0), (.int .i64 0), (.int .i64 0), (.int .u8 0), (.int .u8 0), (.int .u8 0), (.int .u8 0), (.int .u8 0), (.int .u8 0), (.int .u8 0), (.int .u8 0), (.int .u8 0), (.int .u8 0), (.int .u8 0), (.int .u8 0), (.int .u8 0), (.int .u8 0), (.int .u8 0), (.int .u8 0), (.int .u8 0), (.int .u8 0), (.int .u8 0), (.int .u8 0), (.int .u8 0), (.int .u8 0), (.int .u8 0), (.int .u8 0), (.int .u8 0), (.int .u8 0), (.int .u8 0), (.int .u8 0), (.int .u8 0), (.int .u8 0), (.int .u8 0), (.int .u8 0), (.int .u8 0), (.int .u8 0), (.int .u8 0), (.int .u8 0), (.int .u8 0), (.int .u8 0), (.int .u8 0), (.int .u8 0), (.int .u8 0), (.int .u8 0), (.int .u8 0), (.int .u8 0), (.int .u8 0), (.int .u8 0), (.int .u8 0), (.int .u8 0), (.int .u8 0), (.int .u8 0), (.int .u8 0), (.int .u8 0), (.int .u8 0), (.int .u8 0), (.int .u8 0), (.int .u8 0), (.int .u8 0), (.int .u8 0), (.int .u8 0), (.int .u8 0), (.int .u8 0), (.int .u8 0), (.int .u8 0), (.int .u8 0), (.int .u8 0), (.int .u8 0), (.int .u8 0), (.int .u8 0), (.int .u8 0), (.int .u8 0), (.int .u8 0), (.int .u8 0), (.int .u8 0), (.int .u8 0), (.int .u8 0), (.int .u8 0), (.int .u8 0), (.int .u8 0), (.int .u8 0), (.int .u8 0), (.int .u8 0), (.int .u8 0), (.int .u8 0), (.int .u8 0), (.int .u8 0), (.int .u8 0), (.int .u8 0), (.int .u8 0), (.int .u8 0), (.int .u8 0), (.int .u8 0), (.int .u8 0), (.int .u8 0), (.int .u8 0), (.int .u8 0), (.int .u8 0), (.int .u8 0), (.int .u8 0), (.int .u8 0), (.int .u8 0), (.int .u8 0), (.int .u8 0), (.int .u8 0), (.int .u8 0), (.int .u8 0), (.int .u8 0), (.int .u8 0), (.int .u8 0), (.int .u8 0), (.int .u8 0), (.int .u8 0), (.int .u8 0), (.int .u8 0), (.int .u8 0), (.int .u8 0), (.int .u8 0), (.int .u8 0), (.int .u8 0), (.int .u8 0), (.int .u8 0), (.int .u8 0), (.int .u8 0), (.int .u8 0), (.int .u8 0), (.int .u8 0), (.int .u8 0), (.int .u8 0), (.int .u8 0), (.slice none 0 0)]) := by kernel_rfl
theorem sz34 : szOf Try.prog 34 = some 1 := by kernel_rfl
theorem by34 : byOf Try.prog 34 = some 8 := by kernel_rfl
theorem ag34 : aggOf Try.prog 34 = some false := by kernel_rfl
theorem zr34 : zeroOf Try.prog 34 = some (.int .u64 0) := by kernel_rfl
theorem sz35 : szOf Try.prog 35 = some 1 := by kernel_rfl
theorem by35 : byOf Try.prog 35 = some 8 := by kernel_rfl
theorem ag35 : aggOf Try.prog 35 = some false := by kernel_rfl
theorem zr35 : zeroOf Try.prog 35 = some .nilFunc := by kernel_rfl
theorem sz36 : szOf Try.prog 36 = some 1 := by kernel_rfl
theorem by36 : byOf Try.prog 36 = some 8 := by kernel_rfl
theorem ag36 : aggOf Try.prog 36 = some false := by kernel_rfl
theorem zr36 : zeroOf Try.prog 36 = some .nilFunc := by kernel_rfl
theorem sz37 : szOf Try.prog 37 = some 1 := by kernel_rfl
theorem by37 : byOf Try.prog 37 = some 8 := by kernel_rfl
theorem ag37 : aggOf Try.prog 37 = some false := by kernel_rfl
theorem zr37 : zeroOf Try.prog 37 = some .nilFunc := by kernel_rfl
theorem sz38 : szOf Try.prog 38 = some 1 := by kernel_rfl
theorem by38 : byOf Try.prog 38 = some 8 := by kernel_rfl
theorem ag38 : aggOf Try.prog 38 = some false := by kernel_rfl
theorem zr38 : zeroOf Try.prog 38 = some .nilFunc := by kernel_rfl
theorem sz40 : szOf Try.prog 40 = some 1 := by kernel_rfl
theorem by40 : byOf Try.prog 40 = some 8 := by kernel_rfl
theorem ag40 : aggOf Try.prog 40 = some false := by kernel_rfl
theorem zr40 : zeroOf Try.prog 40 = some .nilFunc := by kernel_rfl
theorem sz41 : szOf Try.prog 41 = some 1 := by kernel_rfl
theorem by41 : byOf Try.prog 41 = some 8 := by kernel_rfl
theorem ag41 : aggOf Try.prog 41 = some false := by kernel_rfl
theorem zr41 : zeroOf Try.prog 41 = some .nilFunc := by kernel_rfl
theorem sz42 : szOf Try.prog 42 = some 1 := by kernel_rfl
theorem by42 : byOf Try.prog 42 = some 8 := by kernel_rfl
theorem ag42 : aggOf Try.prog 42 = some false := by kernel_rfl
theorem zr42 : zeroOf Try.prog 42 = some (.pointer none) := by kernel_rfl
theorem sz43 : szOf Try.prog 43 = some 1 := by kernel_rfl
theorem by43 : byOf Try.prog 43 = some 8 := by kernel_rfl
theorem ag43 : aggOf Try.prog 43 = some false := by kernel_rfl
theorem zr43 : zeroOf Try.prog 43 = some .nilFunc := by kernel_rfl
theorem sz44 : szOf Try.prog 44 = some 1 := by kernel_rfl
theorem by44 : byOf Try.prog 44 = some 8 := by kernel_rfl
theorem ag44 : aggOf Try.prog 44 = some false := by kernel_rfl
theorem zr44 : zeroOf Try.prog 44 = some .nilFunc := by kernel_rfl
theorem sz45 : szOf Try.prog 45 = some 1 := by kernel_rfl
theorem by45 : byOf Try.prog 45 = some 8 := by kernel_rfl
theorem ag45 : aggOf Try.prog 45 = some false := by kernel_rfl
theorem zr45 : zeroOf Try.prog 45 = some .nilFunc := by kernel_rfl
theorem sz47 : szOf Try.prog 47 = some 1 := by kernel_rfl
theorem by47 : byOf Try.prog 47 = some 8 := by kernel_rfl
theorem ag47 : aggOf Try.prog 47 = some false := by kernel_rfl
theorem zr47 : zeroOf Try.prog 47 = some .nilFunc := by kernel_rfl
theorem sz48 : szOf Try.prog 48 = some 1 := by kernel_rfl
theorem by48 : byOf Try.prog 48 = some 8 := by kernel_rfl
theorem ag48 : aggOf Try.prog 48 = some false := by kernel_rfl
theorem zr48 : zeroOf Try.prog 48 = some .nilFunc := by kernel_rfl
theorem sz49 : szOf Try.prog 49 = some 1 := by kernel_rfl
theorem by49 : byOf Try.prog 49 = some 8 := by kernel_rfl
theorem ag49 : aggOf Try.prog 49 = some false := by kernel_rfl
theorem zr49 : zeroOf Try.prog 49 = some .nilFunc := by kernel_rfl
theorem sz50 : szOf Try.prog 50 = some 1 := by kernel_rfl
theorem by50 : byOf Try.prog 50 = some 8 := by kernel_rfl
theorem ag50 : aggOf Try.prog 50 = some false := by kernel_rfl
theorem zr50 : zeroOf Try.prog 50 = some .nilFunc := by kernel_rfl
theorem sz51 : szOf Try.prog 51 = some 1 := by kernel_rfl
theorem by51 : byOf Try.prog 51 = some 8 := by kernel_rfl
theorem ag51 : aggOf Try.prog 51 = some false := by kernel_rfl
theorem zr51 : zeroOf Try.prog 51 = some .nilFunc := by kernel_rfl
theorem sz52 : szOf Try.prog 52 = some 3 := by kernel_rfl
theorem by52 : byOf Try.prog 52 = some 24 := by kernel_rfl
theorem ag52 : aggOf Try.prog 52 = some true := by kernel_rfl
theorem eg52 : Try.prog.eqGuardType Try.prog.depth 52 = false := by kernel_rfl
theorem si52 : Try.prog.stoodInHeld 52 = false := by kernel_rfl
theorem zr52 : zeroOf Try.prog 52 = some (.agg #[(.int .i64 0), (.int .i64 0), (.bool false)]) := by kernel_rfl
theorem sz53 : szOf Try.prog 53 = some 3 := by kernel_rfl
theorem by53 : byOf Try.prog 53 = some 24 := by kernel_rfl
theorem ag53 : aggOf Try.prog 53 = some true := by kernel_rfl
theorem eg53 : Try.prog.eqGuardType Try.prog.depth 53 = false := by kernel_rfl
theorem si53 : Try.prog.stoodInHeld 53 = false := by kernel_rfl
theorem zr53 : zeroOf Try.prog 53 = some (.agg #[(.int .i64 0), (.int .i64 0), (.bool false)]) := by kernel_rfl
theorem sz54 : szOf Try.prog 54 = some 1 := by kernel_rfl
theorem by54 : byOf Try.prog 54 = some 24 := by kernel_rfl
theorem ag54 : aggOf Try.prog 54 = some false := by kernel_rfl
theorem zr54 : zeroOf Try.prog 54 = some (.slice none 0 0) := by kernel_rfl
theorem sz55 : szOf Try.prog 55 = some 1 := by kernel_rfl
theorem by55 : byOf Try.prog 55 = some 8 := by kernel_rfl
theorem ag55 : aggOf Try.prog 55 = some false := by kernel_rfl
theorem zr55 : zeroOf Try.prog 55 = some (.map none) := by kernel_rfl
theorem sz56 : szOf Try.prog 56 = some 5 := by kernel_rfl
theorem by56 : byOf Try.prog 56 = some 56 := by kernel_rfl
theorem ag56 : aggOf Try.prog 56 = some true := by kernel_rfl
theorem eg56 : Try.prog.eqGuardType Try.prog.depth 56 = false := by kernel_rfl
theorem si56 : Try.prog.stoodInHeld 56 = false := by kernel_rfl
theorem zr56 : zeroOf Try.prog 56 = some (.agg #[(.int .i64 0), (.int .i64 0), (.bool false), (.slice none 0 0), (.map none)]) := by kernel_rfl
theorem sz57 : szOf Try.prog 57 = some 5 := by kernel_rfl
theorem by57 : byOf Try.prog 57 = some 56 := by kernel_rfl
theorem ag57 : aggOf Try.prog 57 = some true := by kernel_rfl
theorem eg57 : Try.prog.eqGuardType Try.prog.depth 57 = false := by kernel_rfl
theorem si57 : Try.prog.stoodInHeld 57 = false := by kernel_rfl
theorem zr57 : zeroOf Try.prog 57 = some (.agg #[(.int .i64 0), (.int .i64 0), (.bool false), (.slice none 0 0), (.map none)]) := by kernel_rfl
theorem sz59 : szOf Try.prog 59 = some 1 := by kernel_rfl
theorem by59 : byOf Try.prog 59 = some 24 := by kernel_rfl
theorem ag59 : aggOf Try.prog 59 = some false := by kernel_rfl
theorem zr59 : zeroOf Try.prog 59 = some (.slice none 0 0) := by kernel_rfl
theorem sz60 : szOf Try.prog 60 = some 6 := by kernel_rfl
theorem by60 : byOf Try.prog 60 = some 80 := by kernel_rfl
theorem ag60 : aggOf Try.prog 60 = some true := by kernel_rfl
theorem eg60 : Try.prog.eqGuardType Try.prog.depth 60 = false := by kernel_rfl
theorem si60 : Try.prog.stoodInHeld 60 = false := by kernel_rfl
theorem zr60 : zeroOf Try.prog 60 = some (.agg #[(.int .i64 0), (.slice none 0 0), (.slice none 0 0), (.int .i64 0), (.int .i64 0), (.bool false)]) := by kernel_rfl
theorem sz61 : szOf Try.prog 61 = some 6 := by kernel_rfl
theorem by61 : byOf Try.prog 61 = some 80 := by kernel_rfl
theorem ag61 : aggOf Try.prog 61 = some true := by kernel_rfl
theorem eg61 : Try.prog.eqGuardType Try.prog.depth 61 = false := by kernel_rfl
theorem si61 : Try.prog.stoodInHeld 61 = false := by kernel_rfl
theorem zr61 : zeroOf Try.prog 61 = some (.agg #[(.int .i64 0), (.slice none 0 0), (.slice none 0 0), (.int .i64 0), (.int .i64 0), (.bool false)]) := by kernel_rfl
theorem sz62 : szOf Try.prog 62 = some 1 := by kernel_rfl
theorem by62 : byOf Try.prog 62 = some 8 := by kernel_rfl
theorem ag62 : aggOf Try.prog 62 = some false := by kernel_rfl
theorem zr62 : zeroOf Try.prog 62 = some .nilFunc := by kernel_rfl
theorem sz63 : szOf Try.prog 63 = some 1 := by kernel_rfl
theorem by63 : byOf Try.prog 63 = some 8 := by kernel_rfl
theorem ag63 : aggOf Try.prog 63 = some false := by kernel_rfl
theorem zr63 : zeroOf Try.prog 63 = some .nilFunc := by kernel_rfl
theorem sz64 : szOf Try.prog 64 = some 129 := by kernel_rfl
theorem by64 : byOf Try.prog 64 = some 136 := by kernel_rfl
theorem ag64 : aggOf Try.prog 64 = some true := by kernel_rfl
theorem eg64 : Try.prog.eqGuardType Try.prog.depth 64 = false := by kernel_rfl
theorem si64 : Try.prog.stoodInHeld 64 = false := by kernel_rfl
theorem zr64 : zeroOf Try.prog 64 = some (.agg #[(.int .i64 0), (.int .u8 0), (.int .u8 0), (.int .u8 0), (.int .u8 0), (.int .u8 0), (.int .u8 0), (.int .u8 0), (.int .u8 0), (.int .u8 0), (.int .u8 0), (.int .u8 0), (.int .u8 0), (.int .u8 0), (.int .u8 0), (.int .u8 0), (.int .u8 0), (.int .u8 0), (.int .u8 0), (.int .u8 0), (.int .u8 0), (.int .u8 0), (.int .u8 0), (.int .u8 0), (.int .u8 0), (.int .u8 0), (.int .u8 0), (.int .u8 0), (.int .u8 0), (.int .u8 0), (.int .u8 0), (.int .u8 0), (.int .u8 0), (.int .u8 0), (.int .u8 0), (.int .u8 0), (.int .u8 0), (.int .u8 0), (.int .u8 0), (.int .u8 0), (.int .u8 0), (.int .u8 0), (.int .u8 0), (.int .u8 0), (.int .u8 0), (.int .u8 0), (.int .u8 0), (.int .u8 0), (.int .u8 0), (.int .u8 0), (.int .u8 0), (.int .u8 0), (.int .u8 0), (.int .u8 0), (.int .u8 0), (.int .u8 0), (.int .u8 0), (.int .u8 0), (.int .u8 0), (.int .u8 0), (.int .u8 0), (.int .u8 0), (.int .u8 0), (.int .u8 0), (.int .u8 0), (.int .u8 0), (.int .u8 0), (.int .u8 0), (.int .u8 0), (.int .u8 0), (.int .u8 0), (.int .u8 0), (.int .u8 0), (.int .u8 0), (.int .u8 0), (.int .u8 0), (.int .u8 0), (.int .u8 0), (.int .u8 0), (.int .u8 0), (.int .u8 0), (.int .u8 0), (.int .u8 0), (.int .u8 0), (.int .u8 0), (.int .u8 0), (.int .u8 0), (.int .u8 0), (.int .u8 0), (.int .u8 0), (.int .u8 0), (.int .u8 0), (.int .u8 0), (.int .u8 0), (.int .u8 0), (.int .u8 0), (.int .u8 0), (.int .u8 0), (.int .u8 0), (.int .u8 0), (.int .u8 0), (.int .u8 0), (.int .u8 0), (.int .u8 0), (.int .u8 0), (.int .u8 0), (.int .u8 0), (.int .u8 0), (.int .u8 0), (.int .u8 0), (.int .u8 0), (.int .u8 0), (.int .u8 0), (.int .u8 0), (.int .u8 0), (.int .u8 0), (.int .u8 0), (.int .u8 0), (.int .u8 0), (.int .u8 0), (.int .u8 0), (.int .u8 0), (.int .u8 0), (.int .u8 0), (.int .u8 0), (.int .u8 0), (.int .u8 0), (.int .u8 0), (.int .u8 0)]) := by kernel_rfl
theorem sz65 : szOf Try.prog 65 = some 129 := by kernel_rfl
theorem by65 : byOf Try.prog 65 = some 136 := by kernel_rfl
theorem ag65 : aggOf Try.prog 65 = some true := by kernel_rfl
theorem eg65 : Try.prog.eqGuardType Try.prog.depth 65 = false := by kernel_rfl
theorem si65 : Try.prog.stoodInHeld 65 = false := by kernel_rfl
theorem zr65 : zeroOf Try.prog 65 = some (.agg #[(.int .i64 0), (.int .u8 0), (.int .u8 0), (.int .u8 0), (.int .u8 0), (.int .u8 0), (.int .u8 0), (.int .u8 0), (.int .u8 0), (.int .u8 0), (.int .u8 0), (.int .u8 0), (.int .u8 0), (.int .u8 0), (.int .u8 0), (.int .u8 0), (.int .u8 0), (.int .u8 0), (.int .u8 0), (.int .u8 0), (.int .u8 0), (.int .u8 0), (.int .u8 0), (.int .u8 0), (.int .u8 0), (.int .u8 0), (.int .u8 0), (.int .u8 0), (.int .u8 0), (.int .u8 0), (.int .u8 0), (.int .u8 0), (.int .u8 0), (.int .u8 0), (.int .u8 0), (.int .u8 0), (.int .u8 0), (.int .u8 0), (.int .u8 0), (.int .u8 0), (.int .u8 0), (.int .u8 0), (.int .u8 0), (.int .u8 0), (.int .u8 0), (.int .u8 0), (.int .u8 0), (.int .u8 0), (.int .u8 0), (.int .u8 0), (.int .u8 0), (.int .u8 0), (.int .u8 0), (.int .u8 0), (.int .u8 0), (.int .u8 0), (.int .u8 0), (.int .u8 0), (.int .u8 0), (.int .u8 0), (.int .u8 0), (.int .u8 0), (.int .u8 0), (.int .u8 0), (.int .u8 0), (.int .u8 0), (.int .u8 0), (.int .u8 0), (.int .u8 0), (.int .u8 0), (.int .u8 0), (.int .u8 0), (.int .u8 0), (.int .u8 0), (.int .u8 0), (.int .u8 0), (.int .u8 0), (.int .u8 0), (.int .u8 0), (.int .u8 0), (.int .u8 0), (.int .u8 0), (.int .u8 0), (.int .u8 0), (.int .u8 0), (.int .u8 0), (.int .u8 0), (.int .u8 0), (.int .u8 0), (.int .u8 0), (.int .u8 0), (.int .u8 0), (.int .u8 0), (.int .u8 0), (.int .u8 0), (.int .u8 0), (.int .u8 0), (.int .u8 0), (.int .u8 0), (.int .u8 0), (.int .u8 0), (.int .u8 0), (.int .u8 0), (.int .u8 0), (.int .u8 0), (.int .u8 0), (.int .u8 0), (.int .u8 0), (.int .u8 0), (.int .u8 0), (.int .u8 0), (.int .u8 0), (.int .u8 0), (.int .u8 0), (.int .u8 0), (.int .u8 0), (.int .u8 0), (.int .u8 0), (.int .u8 0), (.int .u8 0), (.int .u8 0), (.int .u8 0), (.int .u8 0), (.int .u8 0), (.int .u8 0), (.int .u8 0), (.int .u8 0), (.int .u8 0), (.int .u8 0)]) := by kernel_rfl
theorem sz67 : szOf Try.prog 67 = some 1 := by kernel_rfl
theorem by67 : byOf Try.prog 67 = some 8 := by kernel_rfl
theorem ag67 : aggOf Try.prog 67 = some false := by kernel_rfl
theorem zr67 : zeroOf Try.prog 67 = some .nilFunc := by kernel_rfl
theorem sz68 : szOf Try.prog 68 = some 1 := by kernel_rfl
theorem by68 : byOf Try.prog 68 = some 8 := by kernel_rfl
theorem ag68 : aggOf Try.prog 68 = some false := by kernel_rfl
theorem zr68 : zeroOf Try.prog 68 = some .nilFunc := by kernel_rfl
theorem sz69 : szOf Try.prog 69 = some 1 := by kernel_rfl
theorem by69 : byOf Try.prog 69 = some 8 := by kernel_rfl
theorem ag69 : aggOf Try.prog 69 = some false := by kernel_rfl
theorem zr69 : zeroOf Try.prog 69 = some .nilFunc := by kernel_rfl
theorem sz70 : szOf Try.prog 70 = some 1 := by kernel_rfl
theorem by70 : byOf Try.prog 70 = some 8 := by kernel_rfl
theorem ag70 : aggOf Try.prog 70 = some false := by kernel_rfl
theorem zr70 : zeroOf Try.prog 70 = some .nilFunc := by kernel_rfl
theorem sz71 : szOf Try.prog 71 = some 1 := by kernel_rfl
theorem by71 : byOf Try.prog 71 = some 8 := by kernel_rfl
theorem ag71 : aggOf Try.prog 71 = some false := by kernel_rfl
theorem zr71 : zeroOf Try.prog 71 = some .nilFunc := by kernel_rfl
theorem sz72 : szOf Try.prog 72 = some 1 := by kernel_rfl
theorem by72 : byOf Try.prog 72 = some 8 := by kernel_rfl
theorem ag72 : aggOf Try.prog 72 = some false := by kernel_rfl
theorem zr72 : zeroOf Try.prog 72 = some (.pointer none) := by kernel_rfl
theorem sz73 : szOf Try.prog 73 = some 1 := by kernel_rfl
theorem by73 : byOf Try.prog 73 = some 8 := by kernel_rfl
theorem ag73 : aggOf Try.prog 73 = some false := by kernel_rfl
theorem zr73 : zeroOf Try.prog 73 = some .nilFunc := by kernel_rfl
theorem sz74 : szOf Try.prog 74 = some 1 := by kernel_rfl
theorem by74 : byOf Try.prog 74 = some 8 := by kernel_rfl
theorem ag74 : aggOf Try.prog 74 = some false := by kernel_rfl
theorem zr74 : zeroOf Try.prog 74 = some .nilFunc := by kernel_rfl
theorem sz75 : szOf Try.prog 75 = some 1 := by kernel_rfl
theorem by75 : byOf Try.prog 75 = some 8 := by kernel_rfl
theorem ag75 : aggOf Try.prog 75 = some false := by kernel_rfl
theorem zr75 : zeroOf Try.prog 75 = some .nilFunc := by kernel_rfl
theorem sz76 : szOf Try.prog 76 = some 1 := by kernel_rfl
theorem by76 : byOf Try.prog 76 = some 8 := by kernel_rfl
theorem ag76 : aggOf Try.prog 76 = some false := by kernel_rfl
theorem zr76 : zeroOf Try.prog 76 = some .nilFunc := by kernel_rfl
theorem sz77 : szOf Try.prog 77 = some 1 := by kernel_rfl
theorem by77 : byOf Try.prog 77 = some 8 := by kernel_rfl
theorem ag77 : aggOf Try.prog 77 = some false := by kernel_rfl
theorem zr77 : zeroOf Try.prog 77 = some .nilFunc := by kernel_rfl
theorem sz78 : szOf Try.prog 78 = some 1 := by kernel_rfl
theorem by78 : byOf Try.prog 78 = some 8 := by kernel_rfl
theorem ag78 : aggOf Try.prog 78 = some false := by kernel_rfl
theorem zr78 : zeroOf Try.prog 78 = some (.int .i64 0) := by kernel_rfl
theorem sz80 : szOf Try.prog 80 = some 1 := by kernel_rfl
theorem by80 : byOf Try.prog 80 = some 8 := by kernel_rfl
theorem ag80 : aggOf Try.prog 80 = some false := by kernel_rfl
theorem zr80 : zeroOf Try.prog 80 = some .nilFunc := by kernel_rfl
theorem sz81 : szOf Try.prog 81 = some 1 := by kernel_rfl
theorem by81 : byOf Try.prog 81 = some 8 := by kernel_rfl
theorem ag81 : aggOf Try.prog 81 = some false := by kernel_rfl
theorem zr81 : zeroOf Try.prog 81 = some .nilFunc := by kernel_rfl
theorem sz82 : szOf Try.prog 82 = some 1 := by kernel_rfl
theorem by82 : byOf Try.prog 82 = some 8 := by kernel_rfl
theorem ag82 : aggOf Try.prog 82 = some false := by kernel_rfl
theorem zr82 : zeroOf Try.prog 82 = some .nilFunc := by kernel_rfl
theorem sz83 : szOf Try.prog 83 = some 1 := by kernel_rfl
theorem by83 : byOf Try.prog 83 = some 8 := by kernel_rfl
theorem ag83 : aggOf Try.prog 83 = some false := by kernel_rfl
theorem zr83 : zeroOf Try.prog 83 = some .nilFunc := by kernel_rfl
theorem sz85 : szOf Try.prog 85 = some 1 := by kernel_rfl
theorem by85 : byOf Try.prog 85 = some 8 := by kernel_rfl
theorem ag85 : aggOf Try.prog 85 = some false := by kernel_rfl
theorem zr85 : zeroOf Try.prog 85 = some .nilFunc := by kernel_rfl
theorem sz86 : szOf Try.prog 86 = some 1 := by kernel_rfl
theorem by86 : byOf Try.prog 86 = some 8 := by kernel_rfl
theorem ag86 : aggOf Try.prog 86 = some false := by kernel_rfl
theorem zr86 : zeroOf Try.prog 86 = some .nilFunc := by kernel_rfl
theorem sz87 : szOf Try.prog 87 = some 1 := by kernel_rfl
theorem by87 : byOf Try.prog 87 = some 4 := by kernel_rfl
theorem ag87 : aggOf Try.prog 87 = some false := by kernel_rfl
theorem zr87 : zeroOf Try.prog 87 = some (.int .u32 0) := by kernel_rfl
theorem sz88 : szOf Try.prog 88 = some 1 := by kernel_rfl
theorem by88 : byOf Try.prog 88 = some 8 := by kernel_rfl
theorem ag88 : aggOf Try.prog 88 = some false := by kernel_rfl
theorem zr88 : zeroOf Try.prog 88 = some .nilFunc := by kernel_rfl
theorem sz89 : szOf Try.prog 89 = some 1 := by kernel_rfl
theorem by89 : byOf Try.prog 89 = some 8 := by kernel_rfl
theorem ag89 : aggOf Try.prog 89 = some false := by kernel_rfl
theorem zr89 : zeroOf Try.prog 89 = some (.int .u64 0) := by kernel_rfl
theorem sz90 : szOf Try.prog 90 = some 1 := by kernel_rfl
theorem by90 : byOf Try.prog 90 = some 8 := by kernel_rfl
theorem ag90 : aggOf Try.prog 90 = some false := by kernel_rfl
theorem zr90 : zeroOf Try.prog 90 = some (.int .u64 0) := by kernel_rfl
theorem sz91 : szOf Try.prog 91 = some 1 := by kernel_rfl
theorem by91 : byOf Try.prog 91 = some 8 := by kernel_rfl
theorem ag91 : aggOf Try.prog 91 = some false := by kernel_rfl
theorem zr91 : zeroOf Try.prog 91 = some .nilFunc := by kernel_rfl
theorem sz92 : szOf Try.prog 92 = some 1 := by kernel_rfl
theorem by92 : byOf Try.prog 92 = some 8 := by kernel_rfl
theorem ag92 : aggOf Try.prog 92 = some false := by kernel_rfl
theorem zr92 : zeroOf Try.prog 92 = some .nilFunc := by kernel_rfl
theorem sz93 : szOf Try.prog 93 = some 1 := by kernel_rfl
theorem by93 : byOf Try.prog 93 = some 8 := by kernel_rfl
theorem ag93 : aggOf Try.prog 93 = some false := by kernel_rfl
theorem zr93 : zeroOf Try.prog 93 = some .nilFunc := by kernel_rfl
theorem sz94 : szOf Try.prog 94 = some 1 := by kernel_rfl
theorem by94 : byOf Try.prog 94 = some 8 := by kernel_rfl
theorem ag94 : aggOf Try.prog 94 = some false := by kernel_rfl
theorem zr94 : zeroOf Try.prog 94 = some (.pointer none) := by kernel_rfl
theorem sz95 : szOf Try.prog 95 = some 1 := by kernel_rfl
theorem by95 : byOf Try.prog 95 = some 8 := by kernel_rfl
theorem ag95 : aggOf Try.prog 95 = some false := by kernel_rfl
theorem zr95 : zeroOf Try.prog 95 = some .nilFunc := by kernel_rfl
theorem sz96 : szOf Try.prog 96 = some 1 := by kernel_rfl
theorem by96 : byOf Try.prog 96 = some 8 := by kernel_rfl
theorem ag96 : aggOf Try.prog 96 = some false := by kernel_rfl
theorem zr96 : zeroOf Try.prog 96 = some (.pointer none) := by kernel_rfl
theorem sz98 : szOf Try.prog 98 = some 1 := by kernel_rfl
theorem by98 : byOf Try.prog 98 = some 8 := by kernel_rfl
theorem ag98 : aggOf Try.prog 98 = some false := by kernel_rfl
theorem zr98 : zeroOf Try.prog 98 = some .nilFunc := by kernel_rfl
theorem sz99 : szOf Try.prog 99 = some 1 := by kernel_rfl
theorem by99 : byOf Try.prog 99 = some 8 := by kernel_rfl
theorem ag99 : aggOf Try.prog 99 = some false := by kernel_rfl
theorem zr99 : zeroOf Try.prog 99 = some .nilFunc := by kernel_rfl
theorem sz102 : szOf Try.prog 102 = some 0 := by kernel_rfl
theorem by102 : byOf Try.prog 102 = some 0 := by kernel_rfl
theorem ag102 : aggOf Try.prog 102 = some true := by kernel_rfl
theorem eg102 : Try.prog.eqGuardType Try.prog.depth 102 = false := by kernel_rfl
theorem zr102 : zeroOf Try.prog 102 = some (.agg #[]) := by kernel_rfl
theorem sz107 : szOf Try.prog 107 = some 1 := by kernel_rfl
theorem by107 : byOf Try.prog 107 = some 8 := by kernel_rfl
theorem ag107 : aggOf Try.prog 107 = some false := by kernel_rfl
theorem zr107 : zeroOf Try.prog 107 = some .nilFunc := by kernel_rfl
theorem sz108 : szOf Try.prog 108 = some 1 := by kernel_rfl
theorem by108 : byOf Try.prog 108 = some 8 := by kernel_rfl
theorem ag108 : aggOf Try.prog 108 = some false := by kernel_rfl
theorem zr108 : zeroOf Try.prog 108 = some (.pointer none) := by kernel_rfl
theorem sz113 : szOf Try.prog 113 = some 1 := by kernel_rfl
theorem by113 : byOf Try.prog 113 = some 8 := by kernel_rfl
theorem ag113 : aggOf Try.prog 113 = some false := by kernel_rfl
theorem zr113 : zeroOf Try.prog 113 = some (.pointer none) := by kernel_rfl
theorem co5 : Try.prog.cellsOf 5 = 1 := by kernel_rfl
attribute [push_cast] sz1 by1 ag1 zr1 sz2 by2 ag2 zr2 sz3 by3 ag3 zr3 sz4 by4 ag4 zr4 sz5 by5 ag5 zr5 sz9 by9 ag9 zr9 sz12 by12 ag12 zr12 sz15 by15 ag15 zr15 sz16 by16 ag16 zr16 sz17 by17 ag17 zr17 sz20 by20 ag20 zr20 sz21 by21 ag21 zr21 sz22 by22 ag22 zr22 sz23 by23 ag23 zr23 sz24 by24 ag24 zr24 sz26 by26 ag26 zr26 sz27 by27 ag27 zr27 sz28 by28 ag28 eg28 zr28 sz29 by29 ag29 eg29 zr29 sz30 by30 ag30 eg30 zr30 sz31 by31 ag31 zr31 sz32 by32 ag32 eg32 si32 zr32 sz33 by33 ag33 eg33 si33 zr33 sz34 by34 ag34 zr34 sz35 by35 ag35 zr35 sz36 by36 ag36 zr36 sz37 by37 ag37 zr37 sz38 by38 ag38 zr38 sz40 by40 ag40 zr40 sz41 by41 ag41 zr41 sz42 by42 ag42 zr42 sz43 by43 ag43 zr43 sz44 by44 ag44 zr44 sz45 by45 ag45 zr45 sz47 by47 ag47 zr47 sz48 by48 ag48 zr48 sz49 by49 ag49 zr49 sz50 by50 ag50 zr50 sz51 by51 ag51 zr51 sz52 by52 ag52 eg52 si52 zr52 sz53 by53 ag53 eg53 si53 zr53 sz54 by54 ag54 zr54 sz55 by55 ag55 zr55 sz56 by56 ag56 eg56 si56 zr56 sz57 by57 ag57 eg57 si57 zr57 sz59 by59 ag59 zr59 sz60 by60 ag60 eg60 si60 zr60 sz61 by61 ag61 eg61 si61 zr61 sz62 by62 ag62 zr62 sz63 by63 ag63 zr63 sz64 by64 ag64 eg64 si64 zr64 sz65 by65 ag65 eg65 si65 zr65 sz67 by67 ag67 zr67 sz68 by68 ag68 zr68 sz69 by69 ag69 zr69 sz70 by70 ag70 zr70 sz71 by71 ag71 zr71 sz72 by72 ag72 zr72 sz73 by73 ag73 zr73 sz74 by74 ag74 zr74 sz75 by75 ag75 zr75 sz76 by76 ag76 zr76 sz77 by77 ag77 zr77 sz78 by78 ag78 zr78 sz80 by80 ag80 zr80 sz81 by81 ag81 zr81 sz82 by82 ag82 zr82 sz83 by83 ag83 zr83 sz85 by85 ag85 zr85 sz86 by86 ag86 zr86 sz87 by87 ag87 zr87 sz88 by88 ag88 zr88 sz89 by89 ag89 zr89 sz90 by90 ag90 zr90 sz91 by91 ag91 zr91 sz92 by92 ag92 zr92 sz93 by93 ag93 zr93 sz94 by94 ag94 zr94 sz95 by95 ag95 zr95 sz96 by96 ag96 zr96 sz98 by98 ag98 zr98 sz99 by99 ag99 zr99 sz102 by102 ag102 eg102 zr102 sz107 by107 ag107 zr107 sz108 by108 ag108 zr108 sz113 by113 ag113 zr113 co5 Try.underlying0 Try.underlying1 Try.underlying2 Try.underlying3 Try.underlying4 Try.underlying5 Try.underlying6 Try.underlying7 Try.underlying8 Try.underlying9 Try.underlying10 Try.underlying11 Try.underlying12 Try.underlying13 Try.underlying14 Try.underlying15 Try.underlying16 Try.underlying17 Try.underlying18 Try.underlying19 Try.underlying20 Try.underlying21 Try.underlying22 Try.underlying23 Try.underlying24 Try.underlying25 Try.underlying26 Try.underlying27 Try.underlying28 Try.underlying29 Try.underlying30 Try.underlying31 Try.underlying32 Try.underlying33 Try.underlying34 Try.underlying35 Try.underlying36 Try.underlying37 Try.underlying38 Try.underlying39 Try.underlying40 Try.underlying41 Try.underlying42 Try.underlying43 Try.underlying44 Try.underlying45 Try.underlying46 Try.underlying47 Try.underlying48 Try.underlying49 Try.underlying50 Try.underlying51 Try.underlying52 Try.underlying53 Try.underlying54 Try.underlying55 Try.underlying56 Try.underlying57 Try.underlying58 Try.underlying59 Try.underlying60 Try.underlying61 Try.underlying62 Try.underlying63 Try.underlying64 Try.underlying65 Try.underlying66 Try.underlying67 Try.underlying68 Try.underlying69 Try.underlying70 Try.underlying71 Try.underlying72 Try.underlying73 Try.underlying74 Try.underlying75 Try.underlying76 Try.underlying77 Try.underlying78 Try.underlying79 Try.underlying80 Try.underlying81 Try.underlying82 Try.underlying83 Try.underlying84 Try.underlying85 Try.underlying86 Try.underlying87 Try.underlying88 Try.underlying89 Try.underlying90 Try.underlying91 Try.underlying92 Try.underlying93 Try.underlying94 Try.underlying95 Try.underlying96 Try.underlying97 Try.underlying98 Try.underlying99 Try.underlying100 Try.underlying101 Try.underlying102 Try.underlying103 Try.underlying104 Try.underlying105 Try.underlying106 Try.underlying107 Try.underlying108 Try.underlying109 Try.underlying110 Try.underlying111 Try.underlying112 Try.underlying113
end Go.Proofs.Ytcahlnddcjifdaa

/-
  ENGINE, PART O: a machine that runs code over abstract states, and that what it says holds; for calls whose arguments are known through and through.
-/
set_option linter.unusedVariables false
set_option linter.unusedSimpArgs false
namespace Go.Eng
open Go

deriving instance DecidableEq for CV
deriving instance DecidableEq for BK
deriving instance DecidableEq for Blk

def preB : AMem → AMem → Bool
  | [], _ => true
  | a :: xa, b :: bs => decide (a = b) && preB xa bs
  | _ :: _, [] => false
theorem preB_ok : ∀ {m m' : AMem}, preB m m' = true → ∃ x, m' = m ++ x
  | [], m', _ => ⟨m', rfl⟩
  | a :: xa, b :: bs, h => by
    simp only [preB, Bool.and_eq_true, decide_eq_true_eq] at h
    obtain ⟨rfl, h⟩ := h
    obtain ⟨x, rfl⟩ := preB_ok h
    exact ⟨x, rfl⟩
  | _ :: _, [], h => by cases h

abbrev Caller := FuncId → List AV → AMem → Option (AV × AMem)

section
variable (P : Program) (call : Caller)
def rOps (ops : Array Oper) : List Oper → Tm → AMem → Option (Tm × AMem)
  | [], tm, mem => some (tm, mem)
  | o :: rest, tm, mem =>
    match wantedA ops o tm with
    | some true =>
      match o.op with
      | .store t x y => match storeA P t (opd tm x) (opd tm y) mem with
        | some mem' => rOps ops rest (putO o.dst (.one .und) tm) mem'
        | none => none
      | .call ⟨.value f, args, _⟩ => match opd tm f with
        | .one (.fn g cs) => match call g (args.toList.map (opd tm) ++ capsAV cs) mem with
          | some (ret, mem') => rOps ops rest (putO o.dst ret tm) mem'
          | none => none
        | _ => none
      | op => match evVal P (opd tm) mem op with
        | some (x, mem') => rOps ops rest (putO o.dst x tm) mem'
        | none => none
    | some false => rOps ops rest (putO o.dst (.one .und) tm) mem
    | none => none

def sameAt (r : Nat) (b : Blk) : List AMem → Bool
  | [] => true
  | M :: Ms => decide (M[r]? = some b) && sameAt r b Ms
def watchB (Ms : List AMem) : List (Nat × Nat) → Bool
  | [] => true
  | (lo, r) :: W => (match Ms.drop lo with
    | [] => true
    | M :: Ms' => match M[r]? with
      | some b => sameAt r b Ms'
      | none => false) && watchB Ms W
def upB (A : Option AMem) (cur mem' : AMem) : Bool :=
  match A with
  | some B => preB B cur && preB B mem'
  | none => false

def rOpsD (ops : Array Oper) : Pl → Tm → AMem → List AMem → List (Nat × Nat) → Option (Tm × AMem)
  | [], tm, cur, hist, ws => if watchB hist ws = true then some (tm, cur) else none
  | (o, p) :: rest, tm, cur, hist, ws =>
    match wantedA ops o tm with
    | some true =>
      match p with
      | .val => match evVal P (opd tm) [] o.op with
        | some (x, []) => rOpsD ops rest (putO o.dst x tm) cur hist ws
        | _ => none
      | .rd lo => match o.op with
        | .load t y => match hist[lo]? with
          | some M => match loadA P t (opd tm y) M with
            | some x => rOpsD ops rest (putO o.dst x tm) cur hist ws
            | none => none
          | none => none
        | _ => none
      | .rw lo => match o.op with
        | .load t y => match opd tm y, hist[lo]? with
          | .one (.ptr r ver off), some M => match loadA P t (.one (.ptr r ver off)) M with
            | some x => rOpsD ops rest (putO o.dst x tm) cur hist ((lo, r) :: ws)
            | none => none
          | _, _ => none
        | _ => none
      | .ext => match o.op with
        | .store _ _ _ => none
        | .call ⟨.value f, args, _⟩ => match opd tm f with
          | .one (.fn g cs) => match call g (args.toList.map (opd tm) ++ capsAV cs) cur with
            | some (ret, mem') => if preB cur mem' = true then rOpsD ops rest (putO o.dst ret tm) mem' (hist ++ [mem']) ws else none
            | none => none
          | _ => none
        | op => match evVal P (opd tm) cur op with
          | some (x, mem') => if preB cur mem' = true then rOpsD ops rest (putO o.dst x tm) mem' (hist ++ [mem']) ws else none
          | none => none
      | .up q => match evVal P (opd tm) cur o.op with
        | some (x, mem') => if upB hist[q]? cur mem' = true then rOpsD ops rest (putO o.dst x tm) mem' (hist ++ [mem']) ws else none
        | none => none
      | .fl => match o.op, o.guard with
        | .alloc t, none => match zeroOf P t with
          | some z => rOpsD ops rest (putO o.dst (.one (.ptr cur.length 0 0)) tm) (cur ++ [⟨.fix, t, 0, 0, z.cells.toList.map cellOf⟩]) (hist ++ [cur ++ [⟨.fix, t, 0, 0, z.cells.toList.map cellOf⟩]]) ws
          | none => none
        | _, _ => none
      | .wr => match o.op with
        | .store t x y => match storeA P t (opd tm x) (opd tm y) cur with
          | some mem' => rOpsD ops rest (putO o.dst (.one .und) tm) mem' (hist ++ [mem']) ws
          | none => none
        | .call ⟨.value f, args, _⟩ => match opd tm f with
          | .one (.fn g cs) => match call g (args.toList.map (opd tm) ++ capsAV cs) cur with
            | some (ret, mem') => rOpsD ops rest (putO o.dst ret tm) mem' (hist ++ [mem']) ws
            | none => none
          | _ => none
        | op => match evVal P (opd tm) cur op with
          | some (x, mem') => rOpsD ops rest (putO o.dst x tm) mem' (hist ++ [mem']) ws
          | none => none
    | some false => rOpsD ops rest (putO o.dst (.one .und) tm) cur (if p.chain then hist ++ [cur] else hist) ws
    | none => none

def rLoop (c : Tm → AMem → Option (Exit × Tm × AMem)) : Nat → Tm → AMem → Option (Exit × Tm × AMem)
  | 0, _, _ => none
  | n + 1, tm, mem => match c tm mem with
    | some (.normal, tm', mem') => rLoop c n tm' mem'
    | r => r

variable (pls : Nat → List Plan) (nt L : Nat)
def rCode : Code → Tm → AMem → Option (Exit × Tm × AMem)
  | .skip, tm, mem => some (.normal, tm, mem)
  | .ret, tm, mem => some (.ret, tm, mem)
  | .exit id, tm, mem => some (.exit id, tm, mem)
  | .seq x y, tm, mem => match rCode x tm mem with
    | some (.normal, tm', mem') => rCode y tm' mem'
    | r => r
  | .block id c, tm, mem => match rCode c tm mem with
    | some (.exit id', tm', mem') => if id' = id then some (.normal, tm', mem') else some (.exit id', tm', mem')
    | r => r
  | .cond c x y, tm, mem => match opd tm c with
    | .one (.bool true) => rCode x tm mem
    | .one (.bool false) => rCode y tm mem
    | _ => none
  | .loop c, tm, mem => rLoop (rCode c) L tm mem
  | .region id ops false, tm, mem => if ops.toList.all (dstOk nt) = true then (rOps P call ops ops.toList tm mem).map fun x => (.normal, x.1, x.2) else none
  | .region id ops true, tm, mem => if (pls id).length = ops.toList.length ∧ planOk nt (ops.toList.zip (pls id)) = true then
      (rOpsD P call ops (ops.toList.zip (pls id)) tm mem [mem] []).map fun x => (.normal, x.1, x.2) else none
  | _, _, _ => none
end

def rFunc (P : Program) (pls : Nat → Nat → List Plan) (L : Nat) : Nat → Caller
  | 0, _, _, _ => none
  | n + 1, g, args, mem => match P.funcs[g]? with
    | some fn => match fn.body with
      | some c => if (fn.name == "runtime.NumGoroutine") = false then
          match rCode P (rFunc P pls L n) (pls g) fn.ntmps L c (enterTm 0 args) mem with
          | some (.normal, tm, m) => (resA P fn.results.toList tm m).map fun x => (x, m)
          | some (.ret, tm, m) => (resA P fn.results.toList tm m).map fun x => (x, m)
          | _ => none
        else none
      | none => none
    | none => none

def CallOk (P : Program) (call : Caller) : Prop := ∀ g args mem ret mem', call g args mem = some (ret, mem') → Ctr P g args mem ret mem'

section
variable {P : Program} {call : Caller}
theorem rOps_ok (hc : CallOk P call) {ops : Array Oper} : ∀ (l : List Oper) (tm : Tm) (mem : AMem) (tm' : Tm) (mem' : AMem) (K : Tm → AMem → Prop), rOps P call ops l tm mem = some (tm', mem') → K tm' mem' → AOps P ops l tm mem K
  | [], tm, mem, tm', mem', K, h, hk => by
    simp only [rOps, Option.some.injEq, Prod.mk.injEq] at h
    obtain ⟨rfl, rfl⟩ := h; exact hk
  | o :: rest, tm, mem, tm', mem', K, h, hk => by
    rw [rOps] at h
    rw [AOps]
    split at h
    · rename_i hw
      rw [hw]
      simp only
      split at h
      · rename_i t x y hop
        split at h
        · rename_i m1 hs
          rw [hop]; simp only [hs]
          exact rOps_ok hc rest _ _ _ _ K h hk
        · cases h
      · rename_i f args ts hop
        split at h
        · rename_i g cs hf
          split at h
          · rename_i ret m1 hcall
            rw [hop]; simp only [hf]
            exact ⟨ret, m1, hc _ _ _ _ _ hcall, rOps_ok hc rest _ _ _ _ K h hk⟩
          · cases h
        · cases h
      · rename_i h1 h2
        split at h
        · rename_i x m1 hv
          split
          · rename_i t x y hop; exact absurd hop (h1 t x y)
          · rename_i f args ts hop; exact absurd hop (h2 f args ts)
          · simp only [hv]
            exact rOps_ok hc rest _ _ _ _ K h hk
        · cases h
    · rename_i hw
      rw [hw]
      exact rOps_ok hc rest _ _ _ _ K h hk
    · cases h

theorem sameAt_ok {r : Nat} {b : Blk} : ∀ {Ms : List AMem}, sameAt r b Ms = true → allAt r b Ms
  | [], _ => trivial
  | M :: Ms, h => by
    simp only [sameAt, Bool.and_eq_true, decide_eq_true_eq] at h
    exact ⟨h.1, sameAt_ok h.2⟩
theorem watchB_ok {Ms : List AMem} : ∀ {W : List (Nat × Nat)}, watchB Ms W = true → watchS Ms W
  | [], _ => trivial
  | (lo, r) :: W, h => by
    simp only [watchB, Bool.and_eq_true] at h
    refine ⟨?_, watchB_ok h.2⟩
    have h1 := h.1
    split
    · trivial
    · rename_i M Ms' hd
      rw [hd] at h1
      simp only at h1
      split
      · rename_i b hm; rw [hm] at h1; exact sameAt_ok h1
      · rename_i hm; rw [hm] at h1; cases h1
theorem upB_ok {A : Option AMem} {cur mem' : AMem} (h : upB A cur mem' = true) : ∃ B x0 y0, A = some B ∧ cur = B ++ x0 ∧ mem' = B ++ y0 := by
  unfold upB at h
  split at h
  · rename_i B
    simp only [Bool.and_eq_true] at h
    obtain ⟨x0, hx⟩ := preB_ok h.1
    obtain ⟨y0, hy⟩ := preB_ok h.2
    exact ⟨B, x0, y0, rfl, hx, hy⟩
  · cases h

theorem rOpsD_ok (hc : CallOk P call) {ops : Array Oper} : ∀ (l : Pl) (tm : Tm) (cur : AMem) (hist : List AMem) (ws : List (Nat × Nat)) (tm' : Tm) (mem' : AMem) (K : Tm → AMem → Prop),
    rOpsD P call ops l tm cur hist ws = some (tm', mem') → K tm' mem' → AOpsD P ops l tm cur hist ws K
  | [], tm, cur, hist, ws, tm', mem', K, h, hk => by
    simp only [rOpsD] at h
    split at h
    · rename_i hw
      simp only [Option.some.injEq, Prod.mk.injEq] at h
      obtain ⟨rfl, rfl⟩ := h; exact ⟨watchS_ok (watchB_ok hw), hk⟩
    · cases h
  | (o, p) :: rest, tm, cur, hist, ws, tm', mem', K, h, hk => by
    rw [rOpsD.eq_def] at h
    simp only at h
    rw [AOpsD.eq_def]
    simp only
    split at h
    · rename_i hw
      rw [hw]
      simp only
      cases p with
      | val =>
        simp only at h ⊢
        split at h
        · rename_i x hv; rw [hv]; exact rOpsD_ok hc rest _ _ _ _ _ _ K h hk
        · cases h
      | rd lo =>
        simp only at h ⊢
        split at h
        · rename_i t y hop
          split at h
          · rename_i M hM
            split at h
            · rename_i x hx
              rw [hop]; simp only [hM, hx]; exact rOpsD_ok hc rest _ _ _ _ _ _ K h hk
            · cases h
          · cases h
        · cases h
      | rw lo =>
        simp only at h ⊢
        split at h
        · rename_i t y hop
          split at h
          · rename_i r ver off M hy hM
            split at h
            · rename_i x hx
              rw [hop]; simp only [hy, hM, hx]; exact rOpsD_ok hc rest _ _ _ _ _ _ K h hk
            · cases h
          · cases h
        · cases h
      | ext =>
        simp only at h ⊢
        split at h
        · cases h
        · rename_i f args ts hop
          split at h
          · rename_i g cs hf
            split at h
            · rename_i ret m1 hcall
              split at h
              · rename_i hp
                obtain ⟨extra, rfl⟩ := preB_ok hp
                rw [hop]; simp only [hf]
                exact ⟨ret, extra, hc _ _ _ _ _ hcall, rOpsD_ok hc rest _ _ _ _ _ _ K h hk⟩
              · cases h
            · cases h
          · cases h
        · rename_i h1 h2
          split at h
          · rename_i x m1 hv
            split at h
            · rename_i hp
              split
              · rename_i t x y hop; exact absurd hop (h1 t x y)
              · rename_i f args ts hop; exact absurd hop (h2 f args ts)
              · simp only [hv]
                exact ⟨preB_ok hp, rOpsD_ok hc rest _ _ _ _ _ _ K h hk⟩
            · cases h
          · cases h
      | up q =>
        simp only at h ⊢
        split at h
        · rename_i x m1 hv
          split at h
          · rename_i hp
            rw [hv]
            exact ⟨upB_ok hp, rOpsD_ok hc rest _ _ _ _ _ _ K h hk⟩
          · cases h
        · cases h
      | fl =>
        simp only at h ⊢
        split at h
        · rename_i t hop hg
          split at h
          · rename_i z hz
            rw [hop, hg]; simp only [hz]; exact rOpsD_ok hc rest _ _ _ _ _ _ K h hk
          · cases h
        · cases h
      | wr =>
        simp only at h ⊢
        split at h
        · rename_i t x y hop
          split at h
          · rename_i m1 hs
            rw [hop]; simp only [hs]; exact rOpsD_ok hc rest _ _ _ _ _ _ K h hk
          · cases h
        · rename_i f args ts hop
          split at h
          · rename_i g cs hf
            split at h
            · rename_i ret m1 hcall
              rw [hop]; simp only [hf]
              exact ⟨ret, m1, hc _ _ _ _ _ hcall, rOpsD_ok hc rest _ _ _ _ _ _ K h hk⟩
            · cases h
          · cases h
        · rename_i h1 h2
          split at h
          · rename_i x m1 hv
            split
            · rename_i t x y hop; exact absurd hop (h1 t x y)
            · rename_i f args ts hop; exact absurd hop (h2 f args ts)
            · simp only [hv]
              exact rOpsD_ok hc rest _ _ _ _ _ _ K h hk
          · cases h
    · rename_i hw
      rw [hw]
      exact rOpsD_ok hc rest _ _ _ _ _ _ K h hk
    · cases h

variable {pls : Nat → List Plan} {nt L : Nat}

theorem rLoop_ok {c : Code} {f : Tm → AMem → Option (Exit × Tm × AMem)} (hf : ∀ tm mem ex tm' mem' (Q : Exit → Tm → AMem → Prop), f tm mem = some (ex, tm', mem') → Q ex tm' mem' → AW P nt c tm mem Q) :
    ∀ (n : Nat) (tm : Tm) (mem : AMem) (ex : Exit) (tm' : Tm) (mem' : AMem) (Q : Exit → Tm → AMem → Prop), rLoop f n tm mem = some (ex, tm', mem') → Q ex tm' mem' → ARounds P nt c Q n tm mem
  | 0, _, _, _, _, _, _, h, _ => by cases h
  | n + 1, tm, mem, ex, tm', mem', Q, h, hq => by
    simp only [rLoop] at h
    split at h
    · rename_i tm1 mem1 h1
      exact hf _ _ _ _ _ _ h1 (rLoop_ok hf n _ _ _ _ _ Q h hq)
    · rename_i r hne
      have hex : ex ≠ .normal := by rintro rfl; exact hne _ _ h
      refine hf _ _ _ _ _ _ h ?_
      cases ex with
      | normal => exact absurd rfl hex
      | _ => exact hq

theorem rCode_ok (hc : CallOk P call) (hfol : P.follows .mixedOrders = true) : ∀ (c : Code) (tm : Tm) (mem : AMem) (ex : Exit) (tm' : Tm) (mem' : AMem) (Q : Exit → Tm → AMem → Prop),
    rCode P call pls nt L c tm mem = some (ex, tm', mem') → Q ex tm' mem' → AW P nt c tm mem Q := by
  intro c
  induction c with
  | skip => intro tm mem ex tm' mem' Q h hq; simp only [rCode, Option.some.injEq, Prod.mk.injEq] at h; obtain ⟨rfl, rfl, rfl⟩ := h; exact AW.skip hq
  | ret => intro tm mem ex tm' mem' Q h hq; simp only [rCode, Option.some.injEq, Prod.mk.injEq] at h; obtain ⟨rfl, rfl, rfl⟩ := h; exact AW.ret hq
  | exit id => intro tm mem ex tm' mem' Q h hq; simp only [rCode, Option.some.injEq, Prod.mk.injEq] at h; obtain ⟨rfl, rfl, rfl⟩ := h; exact AW.exit hq
  | seq x y ihx ihy =>
    intro tm mem ex tm' mem' Q h hq
    simp only [rCode] at h
    split at h
    · rename_i tm1 mem1 h1
      exact AW.seq (ihx _ _ _ _ _ _ h1 (ihy _ _ _ _ _ _ h hq))
    · rename_i r hne
      have hex : ex ≠ .normal := by rintro rfl; exact hne _ _ h
      refine AW.seq (ihx _ _ _ _ _ _ h ?_)
      cases ex with
      | normal => exact absurd rfl hex
      | _ => exact hq
  | block id c ih =>
    intro tm mem ex tm' mem' Q h hq
    simp only [rCode] at h
    refine AW.block ?_
    split at h
    · rename_i id' tm1 mem1 h1
      refine ih _ _ _ _ _ _ h1 ?_
      split at h
      · rename_i he
        simp only [Option.some.injEq, Prod.mk.injEq] at h; obtain ⟨rfl, rfl, rfl⟩ := h
        subst he; exact InB_here hq
      · rename_i he
        simp only [Option.some.injEq, Prod.mk.injEq] at h; obtain ⟨rfl, rfl, rfl⟩ := h
        exact InB_far he hq
    · rename_i r hne
      refine ih _ _ _ _ _ _ h ?_
      cases ex with
      | exit id' => exact absurd h (hne _ _ _)
      | _ => exact hq
  | cond c x y ihx ihy =>
    intro tm mem ex tm' mem' Q h hq
    simp only [rCode] at h
    split at h
    · rename_i hb; exact AW.cond_t hb (ihx _ _ _ _ _ _ h hq)
    · rename_i hb; exact AW.cond_f hb (ihy _ _ _ _ _ _ h hq)
    · cases h
  | loop c ih =>
    intro tm mem ex tm' mem' Q h hq
    simp only [rCode] at h
    exact AW.rounds L (rLoop_ok ih _ _ _ _ _ _ _ h hq)
  | region id ops b =>
    intro tm mem ex tm' mem' Q h hq
    cases b with
    | false =>
      simp only [rCode] at h
      split at h
      · rename_i hd
        simp only [Option.map_eq_some_iff, Prod.mk.injEq] at h
        obtain ⟨⟨tm1, mem1⟩, h1, rfl, rfl, rfl⟩ := h
        have h2 : AOps P ops ops.toList tm mem (Q .normal) := rOps_ok hc _ _ _ _ _ _ h1 hq
        have h3 := AW.region (P := P) (nt := nt) (id := id) (l := ops.toList) (tm := tm) (mem := mem) (Q := Q) hd (by simpa using h2)
        simpa using h3
      · cases h
    | true =>
      simp only [rCode] at h
      split at h
      · rename_i hd
        simp only [Option.map_eq_some_iff, Prod.mk.injEq] at h
        obtain ⟨⟨tm1, mem1⟩, h1, rfl, rfl, rfl⟩ := h
        have h2 := rOpsD_ok hc _ _ _ _ _ _ _ (Q .normal) h1 hq
        have h3 := AW.draw (P := P) (nt := nt) (id := id) (l := ops.toList) (tm := tm) (mem := mem) (Q := Q) (pls id) hfol hd.1 hd.2 (by simpa using h2)
        simpa using h3
      · cases h
  | _ => intro tm mem ex tm' mem' Q h hq; simp only [rCode] at h; cases h
end

theorem Hands.all {x : AV} {mem : AMem} {L : Nat} : Hands L x mem x mem := fun ρ v w hv hm => ⟨ρ, hv, hm, fun _ _ _ _ h => h⟩

theorem rFunc_ok {P : Program} {pls : Nat → Nat → List Plan} {L : Nat} (hfol : P.follows .mixedOrders = true) : ∀ n : Nat, CallOk P (rFunc P pls L n)
  | 0 => fun g args mem ret mem' h => by cases h
  | n + 1 => fun g args mem ret mem' h => by
    simp only [rFunc] at h
    split at h
    · rename_i fn hfn
      split at h
      · rename_i c hb
        split at h
        · rename_i hname
          have ok := rFunc_ok (P := P) (pls := pls) (L := L) hfol n
          split at h
          · rename_i tm m hr
            simp only [Option.map_eq_some_iff, Prod.mk.injEq] at h
            obtain ⟨x, hx, rfl, rfl⟩ := h
            exact Ctr.of_body hfn hb hname fun hw => rCode_ok ok hfol _ _ _ _ _ _ _ hr ⟨.inl rfl, x, hx, Hands.all⟩
          · rename_i tm m hr
            simp only [Option.map_eq_some_iff, Prod.mk.injEq] at h
            obtain ⟨x, hx, rfl, rfl⟩ := h
            exact Ctr.of_body hfn hb hname fun hw => rCode_ok ok hfol _ _ _ _ _ _ _ hr ⟨.inr rfl, x, hx, Hands.all⟩
          · cases h
        · cases h
      · cases h
    · cases h

/-- What is reckoned with no memory at hand, and leads to none, holds in every memory. -/
theorem Ctr.closed {P : Program} {f : FuncId} {args : List AV} {ret : AV} {mem' : AMem} (h : Ctr P f args [] ret mem') (ha : ∀ a, a ∈ args → a.below 0 = true) (hr : ret.below 0 = true) (m : AMem) : Ctr P f args m ret m := by
  refine fun ρ w vs hm hargs => ?_
  have h0 : RepM (ρ.upto 0) [] w := ⟨fun r b h => by simp at h, fun r v _ => by simp [Env.upto], fun r b v h => by simp at h, fun r s b c h => by simp at h⟩
  have hargs' : ∀ {xa : List AV} {vs : List Value}, (∀ a, a ∈ xa → a.below 0 = true) → All2 (VR ρ) xa vs → All2 (VR (ρ.upto 0)) xa vs := by
    intro xa
    induction xa with
    | nil => intro vs _ h; cases vs with
      | nil => trivial
      | cons _ _ => exact h.elim
    | cons a xa ih => intro vs hb h; cases vs with
      | nil => exact h.elim
      | cons v vs => exact ⟨h.1.upto (hb a List.mem_cons_self), ih (fun a ha => hb a (List.mem_cons_of_mem _ ha)) h.2⟩
  refine (h _ w vs h0 (hargs' ha hargs)).mono ?_
  rintro e w' ⟨v, ρ', rfl, hv, hm', hs⟩
  have hfr : ∀ n, n < w.heap.size → w'.heap[n]? = w.heap[n]? := fun n hn => hs.frame n hn fun r b x k hb => by simp at hb
  have hm2 : RepM ρ m w' := by
    refine ⟨fun r b hb => ?_, hm.dom, hm.domv, hm.sep⟩
    exact (hm.blk r b hb).heap hs.size fun x k hx hne hlt => hfr _ hlt
  refine ⟨v, ρ, rfl, ?_, hm2, ?_⟩
  · exact (hv.upto hr).mono (fun r v x hx => by simp [Env.upto] at hx)
  · exact ⟨hs.os, hs.tape, hs.output, hs.size, Nat.le_refl _, fun _ _ _ _ h => h, fun r b b' h h' => by rw [h] at h'; injection h' with h'; rw [h'], fun r b h _ => h, fun n hn _ => hfr n hn, fun r b x k h hk hx => .inr ⟨r, b, x, k, h, hk, hx, rfl⟩⟩

/-- A call whose arguments are known, reckoned by the machine. -/
theorem Ctr.run {P : Program} {f : FuncId} {args : List AV} {ret : AV} (pls : Nat → Nat → List Plan) (L n : Nat) (hfol : P.follows .mixedOrders = true) (h : ((rFunc P pls L n f args []).map (·.1)) = some ret) (ha : ∀ a, a ∈ args → a.below 0 = true) (hr : ret.below 0 = true) (m : AMem) : Ctr P f args m ret m := by
  rw [Option.map_eq_some_iff] at h
  obtain ⟨⟨x, mem'⟩, h1, rfl⟩ := h
  exact Ctr.closed (rFunc_ok hfol n _ _ _ _ _ h1) ha hr m
end Go.Eng

/-
  ENGINE, PART P: a nil slice taken as a row of our own with nothing in it; loops whose rounds make blocks.
-/
set_option linter.unusedVariables false
set_option linter.unusedSimpArgs false
namespace Go.Eng
open Go

theorem set_self {α : Type} : ∀ {l : List α} {j : Nat} {v : α}, l[j]? = some v → l.set j v = l
  | [], _, _, _ => rfl
  | x :: l, 0, v, h => by simp at h; subst h; rfl
  | x :: l, j + 1, v, h => by simp at h; simp [set_self h]
theorem All2.set_left {α β : Type} {R : α → β → Prop} {xa : List α} {bs : List β} (h : All2 R xa bs) {j : Nat} {a : α} {b : β} (hb : bs[j]? = some b) (hr : R a b) : All2 R (xa.set j a) bs := by
  have := h.set (i := j) hr
  rwa [set_self hb] at this

section
variable {P : Program} {nt : Nat} {tm : Tm} {mem : AMem}
theorem nil_row {ρ : Env} {L : Nat} {v : Value} (h : VC ρ .nils v) : VC (ρ.set L 0 (none, 0)) (.sl L 0 0 0) v := by
  have e : v = .slice none 0 0 := h
  subst e
  exact ⟨none, 0, none, 0, Env.set_same _ _ _ _, rfl, Nat.le_refl _, fun h => by omega, fun _ => ⟨rfl, rfl⟩⟩

theorem Rep.nilRow {ρ : Env} {a : Act} {w : World} (hr : Rep ρ nt tm mem a w) (ty esz : Nat) (mem1 : AMem) (hlen : mem1.length = mem.length) (hk : ∀ (r : Nat) (b1 : Blk), mem1[r]? = some b1 → ∃ b, mem[r]? = some b ∧ b1.kind = b.kind ∧ b1.ver = b.ver ∧ (b.kind = .ro → b1 = b))
    (hb : ∀ (r : Nat) (b1 : Blk), mem1[r]? = some b1 → BlkR (ρ.set mem.length 0 (none, 0)) w r b1) (tm1 : Tm) (ht : ∀ i, VR (ρ.set mem.length 0 (none, 0)) (Tm.get tm1 i) (a.tmps.getD i undef)) :
    Rep (ρ.set mem.length 0 (none, 0)) nt tm1 (mem1 ++ [⟨.grow, ty, 0, esz, []⟩]) a w ∧ ∀ m0 ρ0 w0, Step m0 ρ0 w0 mem ρ w → Step m0 ρ0 w0 (mem1 ++ [⟨.grow, ty, 0, esz, []⟩]) (ρ.set mem.length 0 (none, 0)) w := by
  have hle : ρ.le (ρ.set mem.length 0 (none, 0)) := Env.le_set (hr.mem.dom _ _ (Nat.le_refl _))
  have hgt : ∀ {s : Nat} {d : Blk}, (mem1 ++ [⟨.grow, ty, 0, esz, []⟩])[s]? = some d → (s < mem.length ∧ mem1[s]? = some d) ∨ (s = mem.length ∧ d = ⟨.grow, ty, 0, esz, []⟩) := by
    intro s d hd
    rcases Nat.lt_or_ge s mem1.length with h | h
    · rw [List.getElem?_append_left h] at hd; exact .inl ⟨by omega, hd⟩
    · rw [List.getElem?_append_right h] at hd
      have hl := (List.getElem?_eq_some_iff.1 hd).1
      simp at hl
      have : s = mem.length := by omega
      subst this
      simp [hlen] at hd
      exact .inr ⟨rfl, hd.symm⟩
  have hoth : ∀ {s v : Nat}, s < mem.length → ρ.set mem.length 0 (none, 0) s v = ρ s v := fun {s v} h => Env.set_other ρ _ (by omega)
  refine ⟨⟨hr.size, ht, ⟨?_, ?_, ?_, ?_⟩⟩, ?_⟩
  · intro s d hd
    rcases hgt hd with ⟨_, h1⟩ | ⟨rfl, rfl⟩
    · exact hb s d h1
    · exact .inl ⟨rfl, Env.set_same _ _ _ _⟩
  · intro s v hs
    simp at hs
    rw [Env.set_other ρ _ (by omega)]
    exact hr.mem.dom s v (by omega)
  · intro s d v hd hv
    rcases hgt hd with ⟨hl, h1⟩ | ⟨rfl, rfl⟩
    · obtain ⟨b, h2, _, h3, _⟩ := hk s d h1
      rw [hoth hl]; exact hr.mem.domv s b v h2 (by omega)
    · simp only at hv
      rw [Env.set_other ρ _ (by omega)]
      exact hr.mem.dom _ _ (Nat.le_refl _)
  · intro s t d e hd he hst hkd hne x y k1 k2 hx hy
    rcases hgt hd with ⟨hl, h1⟩ | ⟨rfl, rfl⟩
    · rcases hgt he with ⟨hl', h1'⟩ | ⟨rfl, rfl⟩
      · obtain ⟨b, h2, h3, h4, h5⟩ := hk s d h1
        obtain ⟨b', h2', h3', h4', h5'⟩ := hk t e h1'
        rw [hoth hl, h4] at hx
        rw [hoth hl', h4'] at hy
        exact hr.mem.sep s t b b' h2 h2' hst (by rw [← h3]; exact hkd) (fun h => by rw [← h5' h]; exact hne (by rw [h3']; exact h)) x y k1 k2 hx hy
      · simp only [Env.set_same] at hy
        injection hy with hy; injection hy with hy _; cases hy
    · simp only [Env.set_same] at hx
      injection hx with hx; injection hx with hx _; cases hx
  · intro m0 ρ0 w0 hs
    refine ⟨hs.os, hs.tape, hs.output, hs.size, ?_, fun r hr v x hx => hle _ _ _ (hs.ext r hr v x hx), ?_, ?_, ?_, ?_⟩
    · have := hs.len; simp; omega
    · intro r b b' hb0 hb'
      have hl0 := (List.getElem?_eq_some_iff.1 hb0).1
      have := hs.len
      rcases hgt hb' with ⟨hl, h1⟩ | ⟨rfl, rfl⟩
      · obtain ⟨b2, h2, h3, _, _⟩ := hk r b' h1
        rw [h3]; exact hs.kind r b b2 hb0 h2
      · omega
    · intro r b' hb' hro
      rcases hgt hb' with ⟨hl, h1⟩ | ⟨rfl, rfl⟩
      · obtain ⟨b2, h2, h3, _, h5⟩ := hk r b' h1
        have e := h5 (by rw [← h3]; exact hro)
        subst e
        exact hs.ro r b' h2 hro
      · cases hro
    · exact hs.frame
    · intro r b' x k hb' hkd hx
      rcases hgt hb' with ⟨hl, h1⟩ | ⟨rfl, rfl⟩
      · obtain ⟨b2, h2, h3, h4, h5⟩ := hk r b' h1
        rw [hoth hl, h4] at hx
        exact hs.fresh r b2 x k h2 (by rw [← h3]; exact hkd) hx
      · simp only [Env.set_same] at hx
        injection hx with hx; injection hx with hx _; cases hx

theorem BlkR.nilCell {ρ ρ' : Env} (hle : ρ.le ρ') {w : World} {r : Nat} {b : Blk} (hb : BlkR ρ w r b) (hk : b.kind ≠ .ro) {j : Nat} (hj : b.cells[j]? = some .nils) {c : CV} (hc : ∀ v, VC ρ .nils v → VC ρ' c v) : BlkR ρ' w r { b with cells := b.cells.set j c } := by
  obtain ⟨kind, ty, ver, esz, cells⟩ := b
  cases kind with
  | fix =>
    obtain ⟨n, cs, k, h1, h2, h3, hkk⟩ := hb
    obtain ⟨v, hv, hr⟩ := h3.get hj
    exact ⟨n, cs, k, hle _ _ _ h1, h2, (h3.mono fun _ _ => VC.mono hle).set_left hv (hc v hr), hkk⟩
  | grow =>
    rcases hb with ⟨h1, h2⟩ | ⟨n, cs, cap, xs, sp, h1, h2, h3, hcm, h4, h5⟩
    · simp only at h1; subst h1; simp at hj
    · obtain ⟨v, hv, hr⟩ := h5.get hj
      exact .inr ⟨n, cs, cap, xs, sp, hle _ _ _ h1, h2, h3, hcm, h4, (h5.mono fun _ _ => VC.mono hle).set_left hv (hc v hr)⟩
  | ro => exact absurd rfl hk
  | map ka va clock es => obtain ⟨n, o, k, _, _, _, h⟩ := hb; simp only at h; subst h; simp at hj
  | iter rm since seen last => obtain ⟨n, N, k, k', _, _, _, h⟩ := hb; simp only at h; subst h; simp at hj

/-- A nil slice in a cell of a block of our own, taken as a row with nothing in it. -/
theorem AW.nilCell {c : Code} {Q : Exit → Tm → AMem → Prop} (ty esz : Nat) (r j : Nat) {b : Blk} (hb : mem[r]? = some b) (hk : b.kind ≠ .ro) (hj : b.cells[j]? = some .nils)
    (h : AW P nt c tm (mem.set r { b with cells := b.cells.set j (.sl mem.length 0 0 0) } ++ [⟨.grow, ty, 0, esz, []⟩]) Q) : AW P nt c tm mem Q := by
  intro ρ a w hr
  have hle : ρ.le (ρ.set mem.length 0 (none, 0)) := Env.le_set (hr.mem.dom _ _ (Nat.le_refl _))
  have hrl := (List.getElem?_eq_some_iff.1 hb).1
  have hgt : ∀ {s : Nat} {d : Blk}, (mem.set r { b with cells := b.cells.set j (.sl mem.length 0 0 0) })[s]? = some d → (s ≠ r ∧ mem[s]? = some d) ∨ (s = r ∧ d = { b with cells := b.cells.set j (.sl mem.length 0 0 0) }) := by
    intro s d hd
    by_cases hs : s = r
    · subst hs; rw [List.getElem?_set_self hrl] at hd; injection hd with hd; exact .inr ⟨rfl, hd.symm⟩
    · rw [List.getElem?_set_ne (fun e => hs e.symm)] at hd; exact .inl ⟨hs, hd⟩
  obtain ⟨h1, h2⟩ := hr.nilRow ty esz (mem.set r { b with cells := b.cells.set j (.sl mem.length 0 0 0) }) (by simp) (fun s d hd => by
      rcases hgt hd with ⟨_, h1⟩ | ⟨e1, e2⟩
      · exact ⟨d, h1, rfl, rfl, fun _ => rfl⟩
      · subst e1; subst e2; exact ⟨b, hb, rfl, rfl, fun h => absurd h hk⟩) (fun s d hd => by
      rcases hgt hd with ⟨_, h1⟩ | ⟨e1, e2⟩
      · exact (hr.mem.blk s d h1).mono hle
      · subst e1; subst e2; exact (hr.mem.blk s b hb).nilCell hle hk hj fun v hv => nil_row hv) tm (fun i => (hr.tm i).mono hle)
  refine wp_mono (h _ a w h1) ?_
  rintro e a' w' ⟨ρ2, tm2, mem2, hr2, hs2, hd, hq⟩
  exact ⟨ρ2, tm2, mem2, hr2, (h2 mem ρ w (Step.refl _ _ _)).trans hs2, hd, hq⟩

/-- The same of a temporary. -/
theorem AW.nilTm {c : Code} {Q : Exit → Tm → AMem → Prop} (ty esz : Nat) (d : Nat) (hd : Tm.get tm d = .one .nils)
    (h : AW P nt c ((d, .one (.sl mem.length 0 0 0)) :: tm) (mem ++ [⟨.grow, ty, 0, esz, []⟩]) Q) : AW P nt c tm mem Q := by
  intro ρ a w hr
  have hle : ρ.le (ρ.set mem.length 0 (none, 0)) := Env.le_set (hr.mem.dom _ _ (Nat.le_refl _))
  obtain ⟨h1, h2⟩ := hr.nilRow ty esz mem rfl (fun s d hd => ⟨d, hd, rfl, rfl, fun _ => rfl⟩) (fun s d hd => (hr.mem.blk s d hd).mono hle) ((d, .one (.sl mem.length 0 0 0)) :: tm) (fun i => by
    rw [Tm.get_put]
    by_cases hi : i = d
    · subst hi
      rw [if_pos rfl]
      have := hr.tm i
      rw [hd] at this
      exact nil_row this
    · rw [if_neg hi]; exact (hr.tm i).mono hle)
  refine wp_mono (h _ a w h1) ?_
  rintro e a' w' ⟨ρ2, tm2, mem2, hr2, hs2, hd, hq⟩
  exact ⟨ρ2, tm2, mem2, hr2, (h2 mem ρ w (Step.refl _ _ _)).trans hs2, hd, hq⟩

/-- A loop whose rounds may make blocks. -/
theorem AW.loopE {ι : Type} {c : Code} {Q : Exit → Tm → AMem → Prop} (keep : List Nat) (m0 : AMem) (I : ι → Prop) (V : ι → Tm) (U : ι → List (Nat × Blk)) (E : ι → AMem) (μ : ι → Nat) (i : ι) (hi : I i) (hv : Keeps tm (V i)) (hm : setAll m0 (U i) ++ E i = mem)
    (hE : ∀ i j, I i → I j → μ j < μ i → (E i).length ≤ (E j).length)
    (h : ∀ i, I i → AW P nt c (V i ++ keepL tm keep) (setAll m0 (U i) ++ E i) (Thn (fun tm' mem' => ∃ j, I j ∧ μ j < μ i ∧ Weak nt tm' mem' (V j ++ keepL tm keep) (setAll m0 (U j) ++ E j)) Q)) : AW P nt (.loop c) tm mem Q := by
  refine AW.weak (tm' := V i ++ keepL tm keep) (Keeps.append hv (keeps_keepL _ _)) ?_
  refine AW.loop (ι := { i // I i }) (fun j => V j.1 ++ keepL tm keep) (fun j => setAll m0 (U j.1) ++ E j.1) (fun j => μ j.1) ⟨i, hi⟩ rfl hm fun ⟨j, hj⟩ => ?_
  refine (h j hj).mono fun e tm' mem' hq => ?_
  cases e with
  | normal =>
    obtain ⟨k, hk, hlt, hw⟩ := hq
    exact ⟨⟨k, hk⟩, hlt, hw, by simp only [List.length_append, setAll_len]; have := hE j k hj hk hlt; omega⟩
  | _ => exact hq

def nilC (L : Nat) (c c' : CV) : Prop := c' = c ∨ (c = .nils ∧ c' = .sl L 0 0 0)
def nilV (L : Nat) : AV → AV → Prop
  | .one c, .one c' => nilC L c c'
  | .agg cs, .agg cs' => All2 (nilC L) cs cs'
  | .tup ts, .tup ts' => All2 (fun t t' => t.1 = t'.1 ∧ All2 (nilC L) t.2 t'.2) ts ts'
  | _, _ => False
theorem AW.loopE0 {ι : Type} {c : Code} {Q : Exit → Tm → AMem → Prop} (keep : List Nat) (I : ι → Prop) (V : ι → Tm) (U : ι → List (Nat × Blk)) (E : ι → AMem) (μ : ι → Nat) (i : ι) (hi : I i) (hv : Keeps tm (V i)) (hm : setAll mem (U i) ++ E i = mem)
    (hE : ∀ i j, I i → I j → μ j < μ i → (E i).length ≤ (E j).length)
    (h : ∀ i, I i → AW P nt c (V i ++ keepL tm keep) (setAll mem (U i) ++ E i) (Thn (fun tm' mem' => ∃ j, I j ∧ μ j < μ i ∧ Weak nt tm' mem' (V j ++ keepL tm keep) (setAll mem (U j) ++ E j)) Q)) : AW P nt (.loop c) tm mem Q :=
  AW.loopE keep mem I V U E μ i hi hv hm hE h

theorem nilC_sound {ρ : Env} {L : Nat} (hle : ρ.le (ρ.set L 0 (none, 0))) {c c' : CV} {v : Value} (h : nilC L c c') (hv : VC ρ c v) : VC (ρ.set L 0 (none, 0)) c' v := by
  rcases h with rfl | ⟨rfl, rfl⟩
  · exact hv.mono hle
  · exact nil_row hv
theorem nilL_sound {ρ : Env} {L : Nat} (hle : ρ.le (ρ.set L 0 (none, 0))) : ∀ {cs cs' : List CV} {vs : List Value}, All2 (nilC L) cs cs' → All2 (VC ρ) cs vs → All2 (VC (ρ.set L 0 (none, 0))) cs' vs
  | [], [], [], _, _ => trivial
  | c :: cs, c' :: cs', v :: vs, h, hv => ⟨nilC_sound hle h.1 hv.1, nilL_sound hle h.2 hv.2⟩
  | [], _ :: _, _, h, _ => h.elim
  | _ :: _, [], _, h, _ => h.elim
  | [], [], _ :: _, _, h => h.elim
  | _ :: _, _ :: _, [], _, h => h.elim
theorem nilT_sound {ρ : Env} {L : Nat} (hle : ρ.le (ρ.set L 0 (none, 0))) {t t' : Bool × List CV} {v : Value} (h : t.1 = t'.1 ∧ All2 (nilC L) t.2 t'.2) (hv : TV ρ t v) : TV (ρ.set L 0 (none, 0)) t' v := by
  obtain ⟨b, cs⟩ := t
  obtain ⟨b', cs'⟩ := t'
  obtain ⟨h1, h2⟩ := h
  simp only at h1 h2
  subst h1
  cases b with
  | true => obtain ⟨vs, e, hvs⟩ := hv; exact ⟨vs, e, nilL_sound hle h2 hvs⟩
  | false =>
    match cs, cs', h2, hv with
    | [], [], _, _ => trivial
    | [c], [c'], h2, hv => exact nilC_sound hle h2.1 hv
    | _ :: _ :: _, _ :: _ :: _, _, _ => trivial
    | [], _ :: _, h2, _ => exact h2.elim
    | _ :: _, [], h2, _ => exact h2.elim
    | [_], _ :: _ :: _, h2, _ => exact h2.2.elim
    | _ :: _ :: _, [_], h2, _ => exact h2.2.elim
theorem nilTs_sound {ρ : Env} {L : Nat} (hle : ρ.le (ρ.set L 0 (none, 0))) : ∀ {ts ts' : List (Bool × List CV)} {vs : List Value}, All2 (fun t t' => t.1 = t'.1 ∧ All2 (nilC L) t.2 t'.2) ts ts' → All2 (TV ρ) ts vs → All2 (TV (ρ.set L 0 (none, 0))) ts' vs
  | [], [], [], _, _ => trivial
  | c :: cs, c' :: cs', v :: vs, h, hv => ⟨nilT_sound hle h.1 hv.1, nilTs_sound hle h.2 hv.2⟩
  | [], _ :: _, _, h, _ => h.elim
  | _ :: _, [], _, h, _ => h.elim
  | [], [], _ :: _, _, h => h.elim
  | _ :: _, _ :: _, [], _, h => h.elim
theorem nilV_sound {ρ : Env} {L : Nat} (hle : ρ.le (ρ.set L 0 (none, 0))) {x x' : AV} {v : Value} (h : nilV L x x') (hv : VR ρ x v) : VR (ρ.set L 0 (none, 0)) x' v := by
  match x, x', h, hv with
  | .one c, .one c', h, hv => exact nilC_sound hle h hv
  | .agg cs, .agg cs', h, hv => obtain ⟨vs, e, hvs⟩ := hv; exact ⟨vs, e, nilL_sound hle h hvs⟩
  | .tup ts, .tup ts', h, hv => obtain ⟨vs, e, hvs⟩ := hv; exact ⟨vs, e, nilTs_sound hle h hvs⟩
  | .one _, .agg _, h, _ => exact h.elim
  | .one _, .tup _, h, _ => exact h.elim
  | .agg _, .one _, h, _ => exact h.elim
  | .agg _, .tup _, h, _ => exact h.elim
  | .tup _, .one _, h, _ => exact h.elim
  | .tup _, .agg _, h, _ => exact h.elim

/-- A nil slice that is handed back, taken as a row with nothing in it. -/
theorem Ctr.nil {f : FuncId} {args : List AV} {m m' : AMem} {ret ret' : AV} (h : Ctr P f args m ret m') (ty esz : Nat) (hv : nilV m'.length ret ret') : Ctr P f args m ret' (m' ++ [⟨.grow, ty, 0, esz, []⟩]) := by
  refine fun ρ w vs hm hargs => (h ρ w vs hm hargs).mono ?_
  rintro e w' ⟨v, ρ', rfl, hvr, hm', hs⟩
  have hle : ρ'.le (ρ'.set m'.length 0 (none, 0)) := Env.le_set (hm'.dom _ _ (Nat.le_refl _))
  have hr : Rep ρ' 0 [] m' ⟨#[], []⟩ w' := ⟨by simp, fun i => trivial, hm'⟩
  obtain ⟨h1, h2⟩ := hr.nilRow ty esz m' rfl (fun s d hd => ⟨d, hd, rfl, rfl, fun _ => rfl⟩) (fun s d hd => (hm'.blk s d hd).mono hle) [] (fun i => trivial)
  exact ⟨v, _, rfl, nilV_sound hle hv hvr, h1.mem, h2 _ _ _ hs⟩
end

theorem all2_cons {α β : Type} {R : α → β → Prop} {t : α} {ts : List α} {l : List β} (h : All2 R (t :: ts) l) : ∃ a xa, l = a :: xa ∧ R t a ∧ All2 R ts xa := by
  cases l with
  | nil => exact h.elim
  | cons a xa => exact ⟨a, xa, rfl, h.1, h.2⟩
theorem all2_nil {α β : Type} {R : α → β → Prop} {l : List β} (h : All2 R ([] : List α) l) : l = [] := by
  cases l with
  | nil => rfl
  | cons a xa => exact h.elim
theorem chain6 (p1 p2 p3 p4 p5 p6 : Prop) : (p1 ∧ p2 ∧ p3 ∧ p4 ∧ p5 ∧ p6) ∨ (p1 ∧ p2 ∧ p3 ∧ p4 ∧ p5 ∧ ¬p6) ∨ (p1 ∧ p2 ∧ p3 ∧ p4 ∧ ¬p5 ∧ True) ∨ (p1 ∧ p2 ∧ p3 ∧ ¬p4 ∧ True ∧ True) ∨ (p1 ∧ p2 ∧ ¬p3 ∧ True ∧ True ∧ True) ∨ (p1 ∧ ¬p2 ∧ True ∧ True ∧ True ∧ True) ∨ (¬p1 ∧ True ∧ True ∧ True ∧ True ∧ True) := by
  rcases Classical.em p1 with h | h <;> rcases chain5 p2 p3 p4 p5 p6 with h' | h' | h' | h' | h' | h' <;> simp [h, h']
theorem chain7 (p1 p2 p3 p4 p5 p6 p7 : Prop) : (p1 ∧ p2 ∧ p3 ∧ p4 ∧ p5 ∧ p6 ∧ p7) ∨ (p1 ∧ p2 ∧ p3 ∧ p4 ∧ p5 ∧ p6 ∧ ¬p7) ∨ (p1 ∧ p2 ∧ p3 ∧ p4 ∧ p5 ∧ ¬p6 ∧ True) ∨ (p1 ∧ p2 ∧ p3 ∧ p4 ∧ ¬p5 ∧ True ∧ True) ∨ (p1 ∧ p2 ∧ p3 ∧ ¬p4 ∧ True ∧ True ∧ True) ∨ (p1 ∧ p2 ∧ ¬p3 ∧ True ∧ True ∧ True ∧ True) ∨ (p1 ∧ ¬p2 ∧ True ∧ True ∧ True ∧ True ∧ True) ∨ (¬p1 ∧ True ∧ True ∧ True ∧ True ∧ True ∧ True) := by
  rcases Classical.em p1 with h | h <;> rcases chain6 p2 p3 p4 p5 p6 p7 with h' | h' | h' | h' | h' | h' | h' <;> simp [h, h']
theorem chain8 (p1 p2 p3 p4 p5 p6 p7 p8 : Prop) : (p1 ∧ p2 ∧ p3 ∧ p4 ∧ p5 ∧ p6 ∧ p7 ∧ p8) ∨ (p1 ∧ p2 ∧ p3 ∧ p4 ∧ p5 ∧ p6 ∧ p7 ∧ ¬p8) ∨ (p1 ∧ p2 ∧ p3 ∧ p4 ∧ p5 ∧ p6 ∧ ¬p7 ∧ True) ∨ (p1 ∧ p2 ∧ p3 ∧ p4 ∧ p5 ∧ ¬p6 ∧ True ∧ True) ∨ (p1 ∧ p2 ∧ p3 ∧ p4 ∧ ¬p5 ∧ True ∧ True ∧ True) ∨ (p1 ∧ p2 ∧ p3 ∧ ¬p4 ∧ True ∧ True ∧ True ∧ True) ∨ (p1 ∧ p2 ∧ ¬p3 ∧ True ∧ True ∧ True ∧ True ∧ True) ∨ (p1 ∧ ¬p2 ∧ True ∧ True ∧ True ∧ True ∧ True ∧ True) ∨ (¬p1 ∧ True ∧ True ∧ True ∧ True ∧ True ∧ True ∧ True) := by
  rcases Classical.em p1 with h | h <;> rcases chain7 p2 p3 p4 p5 p6 p7 p8 with h' | h' | h' | h' | h' | h' | h' | h' <;> simp [h, h']
end Go.Eng

/-
  ENGINE, PART Q: a region that draws its order, where operations that make memory are left unordered: it is parted by which of two comes first, and each part is reckoned in an order of its own.
-/
set_option linter.unusedVariables false
set_option linter.unusedSimpArgs false
namespace Go.Eng
open Go

def bef (σ : List Nat) (i j : Nat) : Prop := σ.idxOf i < σ.idxOf j

/-- An order in which the operations of a region may run. -/
structure Lin (ops : Array Oper) (σ : List Nat) : Prop where
  nd : σ.Nodup
  all : ∀ i, i ∈ σ ↔ i < ops.size
  ord : ∀ (j : Nat) (o : Oper), ops[j]? = some o → ∀ e, e ∈ o.after → Region.binds .any e = true → bef σ e.on j

def backB (ops : List Oper) : Bool := (List.range ops.length).all fun j => match ops[j]? with
  | some o => o.after.all fun e => !Region.binds .any e || decide (e.on < j)
  | none => true
theorem backB_ok {l : List Oper} (h : backB l = true) : ∀ (j : Nat) (o : Oper), l.toArray[j]? = some o → ∀ e, e ∈ o.after → Region.binds .any e = true → e.on < j := by
  intro j o hj e he hb
  have hj' : l[j]? = some o := by simpa using hj
  have h1 := List.all_eq_true.1 h j (List.mem_range.2 (List.getElem?_eq_some_iff.1 hj').1)
  rw [hj'] at h1
  have h2 := Array.all_eq_true_iff_forall_mem.1 h1 e he
  simpa [hb] using h2

theorem idxOf_cons' (i : Nat) (σ : List Nat) (k : Nat) : (i :: σ).idxOf k = if k = i then 0 else σ.idxOf k + 1 := by
  rw [List.idxOf_cons]
  by_cases h : k = i
  · subst h; simp
  · have h1 : (i == k) = false := by simpa using fun e => h e.symm
    rw [if_neg h, h1]; rfl

theorem get_idxOf : ∀ {σ : List Nat} {i : Nat}, i ∈ σ → σ[σ.idxOf i]? = some i
  | k :: σ, i, h => by
    rw [idxOf_cons']
    by_cases e : i = k
    · subst e; simp
    · rw [if_neg e]
      rcases List.mem_cons.1 h with h | h
      · exact absurd h e
      · simpa using get_idxOf h

theorem getD_set (l : Array Bool) (i k : Nat) (d : Bool) (hi : i < l.size) : (l.setIfInBounds i true).getD k d = if k = i then true else l.getD k d := by
  simp only [Array.getD_eq_getD_getElem?]
  by_cases h : k = i
  · subst h; simp [Array.getElem?_setIfInBounds_self_of_lt, hi]
  · rw [if_neg h, Array.getElem?_setIfInBounds_ne (fun e => h e.symm)]

def unl (n : Nat) (listed : Array Bool) : Nat := (List.range n).countP fun i => !listed.getD i true

theorem go_facts {ops : Array Oper} (hback : ∀ (j : Nat) (o : Oper), ops[j]? = some o → ∀ e, e ∈ o.after → Region.binds .any e = true → e.on < j) :
    ∀ (fuel t : Nat) (listed : Array Bool), listed.size = ops.size → unl ops.size listed ≤ fuel →
      (∀ i, i ∈ Region.linearise.go .any ops fuel t listed [] ↔ (i < ops.size ∧ listed.getD i true = false)) ∧ (Region.linearise.go .any ops fuel t listed []).Nodup ∧
      ∀ (j : Nat) (o : Oper), ops[j]? = some o → listed.getD j true = false → ∀ e, e ∈ o.after → Region.binds .any e = true → listed.getD e.on false = true ∨ bef (Region.linearise.go .any ops fuel t listed []) e.on j := by
  have hnone : ∀ (listed : Array Bool), listed.size = ops.size → Region.ready .any ops listed = [] → ∀ j, j < ops.size → listed.getD j true = true := by
    intro listed hsz hr j
    induction j using Nat.strongRecOn with
    | _ j ih =>
      intro hj
      cases hl : listed.getD j true with
      | true => rfl
      | false =>
        exfalso
        have hm : j ∈ Region.ready .any ops listed := by
          simp only [Region.ready, List.mem_filter, List.mem_range]
          refine ⟨hj, ?_⟩
          rw [hl, Array.getElem?_eq_getElem hj]
          simp only [Bool.not_false, Option.map_some, Option.getD_some, Bool.true_and]
          refine Array.all_eq_true_iff_forall_mem.2 fun e he => ?_
          cases hb : Region.binds .any e with
          | false => rfl
          | true =>
            have hlt := hback j _ (Array.getElem?_eq_getElem hj) e he hb
            have h1 := ih e.on hlt (by omega)
            simp only [Bool.not_true, Bool.false_or]
            have : e.on < listed.size := by omega
            simpa [Array.getD_eq_getD_getElem?, this] using h1
        rw [hr] at hm
        cases hm
  intro fuel
  induction fuel with
  | zero =>
    intro t listed hsz hc
    have h0 : ∀ i, i < ops.size → listed.getD i true = true := fun i hi => by
      cases hl : listed.getD i true with
      | true => rfl
      | false =>
        have : 0 < unl ops.size listed := List.countP_pos_iff.2 ⟨i, List.mem_range.2 hi, by simp only [hl, Bool.not_false]⟩
        omega
    simp only [Region.linearise.go]
    refine ⟨fun i => ⟨fun h => (by simp at h), fun h => ?_⟩, (by simp), fun j o hj hl e he hb => ?_⟩
    · have := h0 i h.1; rw [this] at h; cases h.2
    · have := h0 j (Array.getElem?_eq_some_iff.1 hj).1; rw [this] at hl; cases hl
  | succ fuel ih =>
    intro t listed hsz hc
    simp only [Region.linearise.go]
    change (∀ i, i ∈ (match (Region.ready .any ops listed)[t % (Region.ready .any ops listed).length]? with
      | some i => Region.linearise.go .any ops fuel (t / (Region.ready .any ops listed).length) (listed.setIfInBounds i true) [i]
      | none => [].reverse) ↔ (i < ops.size ∧ listed.getD i true = false)) ∧ (match (Region.ready .any ops listed)[t % (Region.ready .any ops listed).length]? with
      | some i => Region.linearise.go .any ops fuel (t / (Region.ready .any ops listed).length) (listed.setIfInBounds i true) [i]
      | none => [].reverse).Nodup ∧ ∀ (j : Nat) (o : Oper), ops[j]? = some o → listed.getD j true = false → ∀ e, e ∈ o.after → Region.binds .any e = true → listed.getD e.on false = true ∨ bef (match (Region.ready .any ops listed)[t % (Region.ready .any ops listed).length]? with
      | some i => Region.linearise.go .any ops fuel (t / (Region.ready .any ops listed).length) (listed.setIfInBounds i true) [i]
      | none => [].reverse) e.on j
    cases hi : (Region.ready .any ops listed)[t % (Region.ready .any ops listed).length]? with
    | none =>
      have hnil : Region.ready .any ops listed = [] := by
        cases hr : Region.ready .any ops listed with
        | nil => rfl
        | cons x xs =>
          rw [hr] at hi
          have hlt : t % (x :: xs).length < (x :: xs).length := Nat.mod_lt _ (by simp)
          simp at hi
          simp at hlt
          omega
      have h0 := hnone listed hsz hnil
      refine ⟨fun i => ⟨fun h => (by simp at h), fun h => ?_⟩, (by simp), fun j o hj hl e he hb => ?_⟩
      · have := h0 i h.1; rw [this] at h; cases h.2
      · have := h0 j (Array.getElem?_eq_some_iff.1 hj).1; rw [this] at hl; cases hl
    | some i =>
      have hm := List.mem_of_getElem? hi
      simp only [Region.ready, List.mem_filter, List.mem_range, Bool.and_eq_true, Bool.not_eq_true'] at hm
      obtain ⟨hil, hiu, hie⟩ := hm
      simp only []
      rw [linearise_go_acc, List.reverse_singleton, List.singleton_append]
      have hsz' : (listed.setIfInBounds i true).size = ops.size := by simpa using hsz
      have hget : ∀ k d, (listed.setIfInBounds i true).getD k d = if k = i then true else listed.getD k d := fun k d => getD_set _ _ _ _ (by omega)
      have hcnt : unl ops.size (listed.setIfInBounds i true) < unl ops.size listed := by
        refine countP_lt (fun k _ hk => ?_) i (List.mem_range.2 hil) (by rw [hiu]; rfl) (by rw [hget, if_pos rfl]; rfl)
        rw [hget] at hk
        by_cases e : k = i
        · rw [if_pos e] at hk; cases hk
        · rw [if_neg e] at hk; exact hk
      obtain ⟨h1, h2, h3⟩ := ih (t / (Region.ready .any ops listed).length) (listed.setIfInBounds i true) hsz' (by omega)
      generalize Region.linearise.go .any ops fuel (t / (Region.ready .any ops listed).length) (listed.setIfInBounds i true) [] = τ at *
      have hin : i ∉ τ := fun h => by
        have := ((h1 i).1 h).2
        rw [hget, if_pos rfl] at this; cases this
      refine ⟨fun k => ?_, List.nodup_cons.2 ⟨hin, h2⟩, fun j o hj hl e he hb => ?_⟩
      · rw [List.mem_cons, h1 k, hget]
        by_cases e : k = i
        · subst e; simp [hil, hiu]
        · rw [if_neg e]; simp [e]
      · unfold bef
        rw [idxOf_cons', idxOf_cons']
        by_cases ej : j = i
        · subst ej
          rw [hj] at hie
          simp only [Option.map_some, Option.getD_some] at hie
          have := Array.all_eq_true_iff_forall_mem.1 hie e he
          simp only [hb, Bool.not_true, Bool.false_or] at this
          exact .inl this
        · rw [if_neg ej]
          rcases h3 j o hj (by rw [hget, if_neg ej]; exact hl) e he hb with h | h
          · rw [hget] at h
            by_cases eo : e.on = i
            · exact .inr (by rw [if_pos eo]; omega)
            · rw [if_neg eo] at h; exact .inl h
          · right
            unfold bef at h
            split <;> omega

theorem lin_of {ops : Array Oper} (hback : ∀ (j : Nat) (o : Oper), ops[j]? = some o → ∀ e, e ∈ o.after → Region.binds .any e = true → e.on < j) (t : Nat) : Lin ops (Region.linearise .any ops t) := by
  have hrep : ∀ k, (Array.replicate ops.size false).getD k false = false := fun k => by
    simp only [Array.getD_eq_getD_getElem?, Array.getElem?_replicate]; split <;> rfl
  have hrep' : ∀ k, k < ops.size → (Array.replicate ops.size false).getD k true = false := fun k hk => by
    simp only [Array.getD_eq_getD_getElem?, Array.getElem?_replicate]; rw [if_pos hk]; rfl
  have h := go_facts hback ops.size t (Array.replicate ops.size false) (by simp) (by
    unfold unl
    have := List.countP_le_length (p := fun i => !(Array.replicate ops.size false).getD i true) (l := List.range ops.size)
    simpa using this)
  refine ⟨h.2.1, fun i => ?_, fun j o hj e he hb => ?_⟩
  · rw [show Region.linearise .any ops t = Region.linearise.go .any ops ops.size t (Array.replicate ops.size false) [] from rfl, h.1 i]
    exact ⟨fun h => h.1, fun h => ⟨h, hrep' i h⟩⟩
  · rcases h.2.2 j o hj (hrep' j (Array.getElem?_eq_some_iff.1 hj).1) e he hb with h1 | h1
    · rw [hrep] at h1; cases h1
    · exact h1

theorem wpAny_lin {P : Program} {ops : Array Oper} {Q : Exit → Act → World → Prop} {σ : List Nat} (hl : Lin ops σ) :
    ∀ (suf pre : List Nat) (fuel : Nat) (listed : Array Bool) (a : Act) (w : World), pre ++ suf = σ → listed.size = ops.size → (∀ k, k < ops.size → listed.getD k false = decide (k ∈ pre)) → suf.length ≤ fuel →
      wpAny P .any ops Q fuel listed a w → wpOps P ops Q suf a w := by
  intro suf
  induction suf with
  | nil =>
    intro pre fuel listed a w hp hsz hli hf h
    have hr : Region.ready .any ops listed = [] := by
      refine List.eq_nil_iff_forall_not_mem.2 fun i hi => ?_
      simp only [Region.ready, List.mem_filter, List.mem_range, Bool.and_eq_true, Bool.not_eq_true'] at hi
      have h1 := hli i hi.1
      have h2 : i ∈ pre := by rw [List.append_nil] at hp; rw [hp]; exact (hl.all i).2 hi.1
      have h3 : listed.getD i true = true := by
        have : i < listed.size := by have := hi.1; omega
        simp only [decide_eq_true h2] at h1
        simpa [Array.getD_eq_getD_getElem?, this] using h1
      rw [h3] at hi
      cases hi.2.1
    cases fuel with
    | zero => exact h.2
    | succ f => exact h.1 hr
  | cons i suf ih =>
    intro pre fuel listed a w hp hsz hli hf h
    have hnd := hl.nd
    rw [← hp] at hnd
    have hil : i < ops.size := (hl.all i).1 (by rw [← hp]; simp)
    have hip : i ∉ pre := fun hh => (List.nodup_append.1 hnd).2.2 i hh i List.mem_cons_self rfl
    have hidx : σ.idxOf i = pre.length := by
      rw [← hp, List.idxOf_append, if_neg hip]; simp
    have hrd : i ∈ Region.ready .any ops listed := by
      simp only [Region.ready, List.mem_filter, List.mem_range, Bool.and_eq_true, Bool.not_eq_true']
      refine ⟨hil, ?_, ?_⟩
      · have h1 := hli i hil
        rw [decide_eq_false hip] at h1
        have : i < listed.size := by omega
        simpa [Array.getD_eq_getD_getElem?, this] using h1
      · rw [Array.getElem?_eq_getElem hil]
        simp only [Option.map_some, Option.getD_some]
        refine Array.all_eq_true_iff_forall_mem.2 fun e he => ?_
        cases hb : Region.binds .any e with
        | false => rfl
        | true =>
          have h1 := hl.ord i _ (Array.getElem?_eq_getElem hil) e he hb
          unfold bef at h1
          rw [hidx] at h1
          have hmem : e.on ∈ pre := by
            rw [← hp, List.idxOf_append] at h1
            by_cases hm : e.on ∈ pre
            · exact hm
            · rw [if_neg hm] at h1; omega
          have hlt : e.on < ops.size := (hl.all _).1 (by rw [← hp]; exact List.mem_append_left _ hmem)
          simp only [Bool.not_true, Bool.false_or]
          rw [hli _ hlt, decide_eq_true hmem]
    cases fuel with
    | zero => simp at hf
    | succ f =>
      rw [wpOps_cons]
      refine wpOp_mono (fun a w => ih (pre ++ [i]) f (listed.setIfInBounds i true) a w (by simpa using hp) (by simpa using hsz) (fun k hk => ?_) (by simpa using hf)) (h.2 i hrd)
      rw [getD_set _ _ _ _ (by omega), hli k hk]
      by_cases e : k = i
      · subst e; simp
      · rw [if_neg e]; simp [e]

/-- The operations in another order, some of them bound to come behind others. -/
def reAft (π : List Nat) (ext : List (Nat × Nat)) (i : Nat) (af : Array Edge) : Array Edge := ((af.toList.map fun e : Edge => (⟨π.idxOf e.on, e.ground⟩ : Edge)) ++ ((ext.filter fun p => p.2 == i).map fun p => (⟨π.idxOf p.1, .data⟩ : Edge))).toArray
def reOp (π : List Nat) (ext : List (Nat × Nat)) (i : Nat) (o : Oper) : Oper :=
  ⟨o.dst, o.op, o.type, o.pos, reAft π ext i o.after, o.guard.map fun g => (π.idxOf g.1, g.2)⟩
def permL (ops : List Oper) (π : List Nat) (ext : List (Nat × Nat)) : List Oper := π.map fun i => reOp π ext i (ops[i]?.getD default)
def permOk (n : Nat) (π : List Nat) : Bool := decide (π.length = n) && π.all (fun i => decide (i < n)) && (List.range n).all (fun i => π.contains i) && decide π.Nodup

section
variable {ops : List Oper} {π : List Nat} {ext : List (Nat × Nat)}
theorem permOk_facts {n : Nat} (h : permOk n π = true) : π.length = n ∧ (∀ i, i ∈ π ↔ i < n) ∧ π.Nodup := by
  simp only [permOk, Bool.and_eq_true, decide_eq_true_eq, List.all_eq_true, List.mem_range, List.contains_iff_mem] at h
  obtain ⟨⟨⟨h1, h2⟩, h3⟩, h4⟩ := h
  exact ⟨h1, fun i => ⟨h2 i, h3 i⟩, h4⟩
theorem permL_get {n : Nat} (hn : ops.length = n) (h : permOk n π = true) {i : Nat} {o : Oper} (ho : ops[i]? = some o) : (permL ops π ext)[π.idxOf i]? = some (reOp π ext i o) := by
  obtain ⟨h1, h2, h3⟩ := permOk_facts h
  have hi : i < n := by rw [← hn]; exact (List.getElem?_eq_some_iff.1 ho).1
  have hm := (h2 i).2 hi
  unfold permL
  rw [List.getElem?_map, get_idxOf hm]
  simp [ho]
theorem idx_inj {n : Nat} (h : permOk n π = true) {i j : Nat} (hi : i < n) (he : π.idxOf i = π.idxOf j) : i = j := by
  obtain ⟨h1, h2, h3⟩ := permOk_facts h
  have hm := (h2 i).2 hi
  have e1 := get_idxOf hm
  have hj : j ∈ π := by
    refine List.idxOf_lt_length_iff.1 ?_
    rw [← he]; exact List.idxOf_lt_length_iff.2 hm
  have e2 := get_idxOf hj
  rw [← he, e1] at e2
  injection e2
theorem idxOf_map {n : Nat} (h : permOk n π = true) : ∀ (σ : List Nat), (∀ k, k ∈ σ → k < n) → ∀ {i : Nat}, i < n → (σ.map fun k => π.idxOf k).idxOf (π.idxOf i) = σ.idxOf i
  | [], _, i, _ => rfl
  | k :: σ, hs, i, hi => by
    rw [List.map_cons, idxOf_cons', idxOf_cons', idxOf_map h σ (fun k hk => hs k (List.mem_cons_of_mem _ hk)) hi]
    by_cases e : i = k
    · subst e; simp
    · rw [if_neg e, if_neg fun he => e (idx_inj h hi he)]

theorem Lin.perm {σ : List Nat} (hl : Lin ops.toArray σ) (h : permOk ops.length π = true) (he : ∀ p, p ∈ ext → bef σ p.1 p.2 ∧ p.1 < ops.length) (hb : ∀ (j : Nat) (o : Oper), ops.toArray[j]? = some o → ∀ e, e ∈ o.after → Region.binds .any e = true → e.on < j) :
    Lin (permL ops π ext).toArray (σ.map fun k => π.idxOf k) := by
  obtain ⟨h1, h2, h3⟩ := permOk_facts h
  have hlt : ∀ k, k ∈ σ → k < ops.length := fun k hk => by simpa using (hl.all k).1 hk
  have hsz : (permL ops π ext).toArray.size = ops.length := by simp [permL, h1]
  have hmapnd : ∀ τ : List Nat, (∀ k, k ∈ τ → k < ops.length) → τ.Nodup → (τ.map fun k => π.idxOf k).Nodup := by
    intro τ
    induction τ with
    | nil => intro _ _; simp
    | cons k τ ih =>
      intro hk hnd
      obtain ⟨hk1, hk2⟩ := List.nodup_cons.1 hnd
      rw [List.map_cons]
      refine List.nodup_cons.2 ⟨fun hm => ?_, ih (fun k hk' => hk k (List.mem_cons_of_mem _ hk')) hk2⟩
      obtain ⟨k', hk', e⟩ := List.mem_map.1 hm
      have := idx_inj h (hk k' (List.mem_cons_of_mem _ hk')) e
      subst this; exact hk1 hk'
  refine ⟨hmapnd σ hlt hl.nd, fun i => ?_, fun j o hj e hee hbe => ?_⟩
  · rw [hsz, List.mem_map]
    constructor
    · rintro ⟨k, hk, rfl⟩
      rw [← h1]; exact List.idxOf_lt_length_iff.2 ((h2 k).2 (hlt k hk))
    · intro hi
      have hi' : i < π.length := by omega
      refine ⟨π[i], (hl.all _).2 (by simpa using (h2 _).1 (List.getElem_mem hi')), h3.idxOf_getElem i hi'⟩
  · have hj' : (permL ops π ext)[j]? = some o := by simpa using hj
    unfold permL at hj'
    rw [List.getElem?_map, Option.map_eq_some_iff] at hj'
    obtain ⟨i, hi, rfl⟩ := hj'
    have hil : i < ops.length := (h2 i).1 (List.mem_of_getElem? hi)
    have hji : π.idxOf i = j := by
      obtain ⟨hjl, e⟩ := List.getElem?_eq_some_iff.1 hi
      rw [← e]; exact h3.idxOf_getElem j hjl
    have ho : ops[i]? = some (ops[i]'hil) := List.getElem?_eq_getElem hil
    rw [ho] at hee
    simp only [Option.getD_some, reOp, reAft, List.mem_toArray, List.mem_append, List.mem_map, List.mem_filter] at hee
    unfold bef
    rw [← hji, idxOf_map h σ hlt hil]
    rcases hee with ⟨e0, he0, rfl⟩ | ⟨p, ⟨hp, hpi⟩, rfl⟩
    · have hb0 : Region.binds .any e0 = true := by simpa [Region.binds] using hbe
      have hlt0 := hb i _ (by rw [List.getElem?_toArray]; exact ho) e0 (by simpa using he0) hb0
      simp only
      rw [idxOf_map h σ hlt (by omega)]
      exact hl.ord i _ (by rw [List.getElem?_toArray]; exact ho) e0 (by simpa using he0) hb0
    · have hpe : p.2 = i := by simpa using hpi
      simp only
      rw [idxOf_map h σ hlt (he p hp).2, ← hpe]
      exact (he p hp).1

theorem wpOp_perm {P : Program} {Q : Exit → Act → World → Prop} (h : permOk ops.length π = true) {i : Nat} (hi : i < ops.length) {K : Act → World → Prop} {a : Act} {w : World}
    (hw : wpOp P (permL ops π ext).toArray Q (π.idxOf i) K a w) : wpOp P ops.toArray Q i K a w := by
  obtain ⟨h1, h2, h3⟩ := permOk_facts h
  have ho : ops[i]? = some (ops[i]'hi) := List.getElem?_eq_getElem hi
  generalize ops[i]'hi = o at ho
  have hy : ∀ g, yielded (permL ops π ext).toArray a.tmps (π.idxOf g) = yielded ops.toArray a.tmps g := by
    intro g
    unfold yielded
    rcases Nat.lt_or_ge g ops.length with hg | hg
    · have hg' : ops[g]? = some (ops[g]'hg) := List.getElem?_eq_getElem hg
      simp only [List.getElem?_toArray, permL_get rfl h hg', hg', reOp, Option.bind_some]
    · have e1 : ops[g]? = none := List.getElem?_eq_none hg
      have e2 : (permL ops π ext)[π.idxOf g]? = none := List.getElem?_eq_none (by
        have : g ∉ π := fun hm => by have := (h2 g).1 hm; omega
        rw [List.idxOf_eq_length this]; simp [permL])
      simp only [List.getElem?_toArray, e1, e2]
  have hwant : Region.wanted (reOp π ext i o) (yielded (permL ops π ext).toArray a.tmps) = Region.wanted o (yielded ops.toArray a.tmps) := by
    simp only [Region.wanted, reOp]
    cases o.guard with
    | none => rfl
    | some g => simp only [Option.map_some, hy]
  unfold wpOp at hw ⊢
  simp only [List.getElem?_toArray, permL_get rfl h ho, hwant] at hw
  simp only [List.getElem?_toArray, ho]
  exact hw

theorem wpOps_perm {P : Program} {Q : Exit → Act → World → Prop} (h : permOk ops.length π = true) : ∀ (σ : List Nat), (∀ k, k ∈ σ → k < ops.length) → ∀ (a : Act) (w : World), wpOps P (permL ops π ext).toArray Q (σ.map fun k => π.idxOf k) a w → wpOps P ops.toArray Q σ a w
  | [], _, a, w, hw => hw
  | i :: σ, hs, a, w, hw => by
    rw [List.map_cons, wpOps_cons] at hw
    rw [wpOps_cons]
    exact wpOp_perm h (hs i List.mem_cons_self) (wpOp_mono (fun a w => wpOps_perm h σ (fun k hk => hs k (List.mem_cons_of_mem _ hk)) a w) hw)
end

section
variable {P : Program} {nt : Nat} {tm : Tm} {mem : AMem}
/-- All orders in which, of some pairs, the one comes ahead of the other. -/
def DX (P : Program) (nt : Nat) (ops : List Oper) (ext : List (Nat × Nat)) (tm : Tm) (mem : AMem) (K : Tm → AMem → Prop) : Prop :=
  ∀ ρ a w, Rep ρ nt tm mem a w → ∀ QQ : Exit → Act → World → Prop, (∀ ρ' tm' mem' a' w', Rep ρ' nt tm' mem' a' w' → Step mem ρ w mem' ρ' w' → a'.defers = a.defers → K tm' mem' → QQ .normal a' w') →
    ∀ σ, Lin ops.toArray σ → (∀ p, p ∈ ext → bef σ p.1 p.2) → wpOps P ops.toArray QQ σ a w

theorem AW.drawX {id : Nat} {l : List Oper} {Q : Exit → Tm → AMem → Prop} (hf : P.follows .mixedOrders = true) (hb : backB l = true) (h : DX P nt l [] tm mem (Q .normal)) : AW P nt (.region id l.toArray true) tm mem Q := by
  intro ρ a w hr
  refine wp_region_draw fun t => ?_
  simp only [Region.schedule, hf, Bool.true_or, if_true]
  exact h ρ a _ hr.drew _ (fun ρ' tm' mem' a' w' r s d k => ⟨ρ', tm', mem', r, ⟨s.os, s.tape, s.output, s.size, s.len, s.ext, s.kind, s.ro, s.frame, s.fresh⟩, d, k⟩) _ (lin_of (backB_ok hb) t) (fun p hp => by cases hp)

theorem DX.split {l : List Oper} {ext : List (Nat × Nat)} {K : Tm → AMem → Prop} (i j : Nat) (hn : i ≠ j ∧ i < l.length ∧ j < l.length) (h1 : DX P nt l ((i, j) :: ext) tm mem K) (h2 : DX P nt l ((j, i) :: ext) tm mem K) : DX P nt l ext tm mem K := by
  intro ρ a w hr QQ hQ σ hl he
  obtain ⟨hne, hi, hj⟩ := hn
  have hmi : i ∈ σ := (hl.all i).2 (by simpa using hi)
  have hmj : j ∈ σ := (hl.all j).2 (by simpa using hj)
  have hneq : σ.idxOf i ≠ σ.idxOf j := fun e => by
    have e1 := get_idxOf hmi
    have e2 := get_idxOf hmj
    rw [e, e2] at e1
    injection e1 with e1
    exact hne e1.symm
  rcases Nat.lt_or_ge (σ.idxOf i) (σ.idxOf j) with h | h
  · exact h1 ρ a w hr QQ hQ σ hl fun p hp => by
      rcases List.mem_cons.1 hp with rfl | hp
      · exact h
      · exact he p hp
  · exact h2 ρ a w hr QQ hQ σ hl fun p hp => by
      rcases List.mem_cons.1 hp with rfl | hp
      · unfold bef; simp only; omega
      · exact he p hp

def dxOk (nt : Nat) (l : List Oper) (π : List Nat) (ext : List (Nat × Nat)) (l' : List Oper) (pl : List Plan) : Bool :=
  permOk l.length π && backB l && ext.all (fun p => decide (p.1 < l.length)) && decide (pl.length = l'.length) && planOk nt (l'.zip pl)

theorem DX.run {l l' : List Oper} {ext : List (Nat × Nat)} {K : Tm → AMem → Prop} (π : List Nat) (pl : List Plan) (hl' : permL l π ext = l') (hok : dxOk nt l π ext l' pl = true)
    (h : AOpsD P l'.toArray (l'.zip pl) tm mem [mem] [] K) : DX P nt l ext tm mem K := by
  intro ρ a w hr QQ hQ σ hl he
  subst hl'
  simp only [dxOk, Bool.and_eq_true, List.all_eq_true, decide_eq_true_eq] at hok
  obtain ⟨⟨⟨⟨h1, h2⟩, h3⟩, h4⟩, h5⟩ := hok
  have hlt : ∀ k, k ∈ σ → k < l.length := fun k hk => by simpa using (hl.all k).1 hk
  refine wpOps_perm (ext := ext) h1 σ hlt a w ?_
  have hlin := hl.perm h1 (fun p hp => ⟨he p hp, h3 p hp⟩) (backB_ok h2)
  have he' : (permL l π ext).toArray = opsOf ((permL l π ext).zip pl) := by
    unfold opsOf
    rw [show (fun x : Oper × Plan => x.1) = Prod.fst from rfl, List.map_fst_zip (by omega)]
  have hs := aopsD_sound (P := P) h5 (by rw [he'] at h; exact h) hr (Q := QQ) hQ
  rw [← he'] at hs
  refine wpAny_lin hlin (σ.map fun k => π.idxOf k) [] _ _ a w rfl (by simp) (fun k hk => ?_) ?_ hs
  · simp only [Array.getD_eq_getD_getElem?, Array.getElem?_replicate]
    rw [if_pos hk]; rfl
  · have hperm : ∀ (n : Nat) (τ : List Nat), τ.Nodup → (∀ k, k ∈ τ → k < n) → τ.length ≤ n := by
      intro n
      induction n with
      | zero => intro τ _ hk; cases τ with
        | nil => simp
        | cons x τ => exact absurd (hk x List.mem_cons_self) (by omega)
      | succ n ih =>
        intro τ hnd hk
        have h6 : (τ.erase n).length ≤ n := ih _ (hnd.erase n) fun k hk' => by
          have hkm := List.mem_of_mem_erase hk'
          have := hk k hkm
          have : k ≠ n := fun e => by subst e; exact (List.Nodup.not_mem_erase hnd) hk'
          omega
        have := List.length_erase (a := n) (l := τ)
        split at this <;> omega
    exact hperm _ _ hlin.nd fun k hk => (hlin.all k).1 hk
end
end Go.Eng

/-
  ENGINE, PART R: a scope in which the run jumps back to one label.
-/
set_option linter.unusedVariables false
set_option linter.unusedSimpArgs false
namespace Go.Eng
open Go

theorem least {p : Nat → Prop} : ∀ n, p n → ∃ k, p k ∧ ∀ m, m < k → ¬ p m := by
  intro n
  induction n using Nat.strongRecOn with
  | _ n ih =>
    intro hn
    by_cases h : ∃ m, m < n ∧ p m
    · obtain ⟨m, hm, hp⟩ := h; exact ih m hm hp
    · exact ⟨n, hn, fun m hm hp => h ⟨m, hm, hp⟩⟩

def Jmp (l : Nat) (J : Tm → AMem → Prop) (Q : Exit → Tm → AMem → Prop) : Exit → Tm → AMem → Prop
  | .goto l', tm, mem => l' = l ∧ J tm mem
  | e, tm, mem => Q e tm mem

section
variable {P : Program} {nt : Nat} {tm : Tm} {mem : AMem} {Q : Exit → Tm → AMem → Prop}
theorem AW.label {l : Nat} (h : Q .normal tm mem) : AW P nt (.label l) tm mem Q := fun ρ a w hr => by
  have h1 := AW.skip (P := P) (nt := nt) (tm := tm) (mem := mem) (Q := Q) h ρ a w hr
  intro b k cs
  obtain ⟨e, a', w', q, r⟩ := h1 b k cs
  exact ⟨.normal, a, w, ⟨ρ, tm, mem, hr, Step.refl _ _ _, rfl, h⟩, .one step_label⟩
theorem AW.goto {l : Nat} (h : Q (.goto l) tm mem) : AW P nt (.goto l) tm mem Q := fun ρ a w hr b k cs =>
  ⟨.goto l, a, w, ⟨ρ, tm, mem, hr, Step.refl _ _ _, rfl, h⟩, fun k' hk => .one (step_goto hk)⟩

theorem AW.scope {ι : Type} {c rest : Code} (l : Nat) (hf : findLabel c l = some rest) (T : ι → Tm) (M : ι → AMem) (μ : ι → Nat)
    (pass : ∀ i, AW P nt rest (T i) (M i) (Jmp l (fun tm' mem' => ∃ j, μ j < μ i ∧ Weak nt tm' mem' (T j) (M j) ∧ (M i).length ≤ (M j).length) Q))
    (first : AW P nt c tm mem (Jmp l (fun tm' mem' => ∃ j, Weak nt tm' mem' (T j) (M j) ∧ mem.length ≤ (M j).length) Q)) : AW P nt (.scope c) tm mem Q := by
  intro ρ a w hr
  let JJ : Nat → Act → World → Prop := fun n a' w' => ∃ i ρ', μ i = n ∧ Rep ρ' nt (T i) (M i) a' w' ∧ Step mem ρ w (M i) ρ' w' ∧ a'.defers = a.defers ∧ mem.length ≤ (M i).length
  let J : Act → World → Prop := fun a' w' => ∃ n, JJ n a' w'
  have hle : ∀ a' w', ∃ n, J a' w' → JJ n a' w' ∧ ∀ m, m < n → ¬ JJ m a' w' := fun a' w' => by
    by_cases h : J a' w'
    · obtain ⟨n, hn⟩ := h
      obtain ⟨k, h1, h2⟩ := least (p := fun n => JJ n a' w') n hn
      exact ⟨k, fun _ => ⟨h1, h2⟩⟩
    · exact ⟨0, fun h' => absurd h' h⟩
  let μ' : Act → World → Nat := fun a' w' => Classical.choose (hle a' w')
  have hμ : ∀ a' w', J a' w' → JJ (μ' a' w') a' w' ∧ ∀ m, JJ m a' w' → μ' a' w' ≤ m := fun a' w' h => by
    have := Classical.choose_spec (hle a' w') h
    exact ⟨this.1, fun m hm => Nat.le_of_not_lt fun hlt => this.2 m hlt hm⟩
  refine wp_scope_jumps l J μ' hf (wp_mono (first ρ a w hr) ?_) ?_
  · rintro e a' w' ⟨ρ', tm', mem', hr', hs, hd, hq⟩
    cases e with
    | goto l' =>
      obtain ⟨rfl, j, hw, hl⟩ := hq
      obtain ⟨ρ2, hr2, hs2⟩ := hw ρ' a' w' hr'
      exact ⟨rfl, μ j, j, ρ2, rfl, hr2, hs2 _ _ _ hl hs, hd, hl⟩
    | _ => exact ⟨ρ', tm', mem', hr', hs, hd, hq⟩
  · intro a1 w1 hJ
    obtain ⟨⟨i, ρ1, hi, hr1, hs1, hd1, hl1⟩, hmin⟩ := hμ a1 w1 hJ
    refine wp_mono (pass i ρ1 a1 w1 hr1) ?_
    rintro e a' w' ⟨ρ', tm', mem', hr', hs, hd, hq⟩
    cases e with
    | goto l' =>
      obtain ⟨rfl, j, hlt, hw, hl⟩ := hq
      obtain ⟨ρ2, hr2, hs2⟩ := hw ρ' a' w' hr'
      have hl' : mem.length ≤ (M j).length := Nat.le_trans hl1 hl
      have hJJ : JJ (μ j) a' w' := ⟨j, ρ2, rfl, hr2, hs2 _ _ _ hl' (hs1.trans hs), hd.trans hd1, hl'⟩
      have hJ' : J a' w' := ⟨_, hJJ⟩
      refine ⟨rfl, hJ', ?_⟩
      have := (hμ a' w' hJ').2 _ hJJ
      omega
    | _ => exact ⟨ρ', tm', mem', hr', hs1.trans hs, hd.trans hd1, hq⟩

/-- The fall into the label: what holds of every pass holds of this one. -/
theorem AW.fall {ι : Type} {c : Code} {l : Nat} {T : ι → Tm} {M : ι → AMem} {μ : ι → Nat} {L : Nat} (i : ι) (hw : Weak nt tm mem (T i) (M i)) (hlen : mem.length ≤ (M i).length) (hL : L ≤ (M i).length)
    (h : AW P nt c (T i) (M i) (Jmp l (fun tm' mem' => ∃ j, μ j < μ i ∧ Weak nt tm' mem' (T j) (M j) ∧ (M i).length ≤ (M j).length) Q)) :
    AW P nt c tm mem (Jmp l (fun tm' mem' => ∃ j, Weak nt tm' mem' (T j) (M j) ∧ L ≤ (M j).length) Q) := by
  intro ρ a w hr
  obtain ⟨ρ', hr', hs⟩ := hw ρ a w hr
  refine wp_mono (h ρ' a w hr') ?_
  rintro e a' w' ⟨ρ2, tm2, mem2, hr2, hs2, hd, hq⟩
  refine ⟨ρ2, tm2, mem2, hr2, (hs mem ρ w hlen (Step.refl _ _ _)).trans hs2, hd, ?_⟩
  cases e with
  | goto l' => obtain ⟨rfl, j, _, hw2, hl2⟩ := hq; exact ⟨rfl, j, hw2, Nat.le_trans hL hl2⟩
  | _ => exact hq

theorem AW.scopeI {ι : Type} {c R : Code} (l : Nat) (hf : findLabel c l = some (.seq .skip R)) (I : ι → Prop) (T : ι → Tm) (M : ι → AMem) (μ : ι → Nat)
    (pass : ∀ i, I i → AW P nt R (T i) (M i) (Jmp l (fun tm' mem' => ∃ j, I j ∧ μ j < μ i ∧ Weak nt tm' mem' (T j) (M j) ∧ (M i).length ≤ (M j).length) Q))
    (first : (∀ i, I i → AW P nt R (T i) (M i) (Jmp l (fun tm' mem' => ∃ j, I j ∧ μ j < μ i ∧ Weak nt tm' mem' (T j) (M j) ∧ (M i).length ≤ (M j).length) Q)) →
      ∀ J : Tm → AMem → Prop, (∀ j tm' mem', I j → Weak nt tm' mem' (T j) (M j) → mem.length ≤ (M j).length → J tm' mem') → AW P nt c tm mem (Jmp l J Q)) : AW P nt (.scope c) tm mem Q := by
  refine AW.scope (ι := { i // I i }) l hf (fun i => T i.1) (fun i => M i.1) (fun i => μ i.1) (fun i => ?_) ?_
  · refine AW.seq (AW.skip ?_)
    refine (pass i.1 i.2).mono fun e tm' mem' hq => ?_
    cases e with
    | goto l' => obtain ⟨rfl, j, hj, h1, h2, h3⟩ := hq; exact ⟨rfl, ⟨j, hj⟩, h1, h2, h3⟩
    | _ => exact hq
  · refine (first pass (fun tm' mem' => ∃ j, I j ∧ Weak nt tm' mem' (T j) (M j) ∧ mem.length ≤ (M j).length) fun j _ _ h1 h2 h3 => ⟨j, h1, h2, h3⟩).mono fun e tm' mem' hq => ?_
    cases e with
    | goto l' => obtain ⟨rfl, j, hj, h2, h3⟩ := hq; exact ⟨rfl, ⟨j, hj⟩, h2, h3⟩
    | _ => exact hq
theorem AW.fallI {ι : Type} {R : Code} {l : Nat} {I : ι → Prop} {T : ι → Tm} {M : ι → AMem} {μ : ι → Nat} {L : Nat} {J : Tm → AMem → Prop}
    (pass : ∀ i, I i → AW P nt R (T i) (M i) (Jmp l (fun tm' mem' => ∃ j, I j ∧ μ j < μ i ∧ Weak nt tm' mem' (T j) (M j) ∧ (M i).length ≤ (M j).length) Q))
    (hJ : ∀ j tm' mem', I j → Weak nt tm' mem' (T j) (M j) → L ≤ (M j).length → J tm' mem')
    (i : ι) (hi : I i) (hlen : mem.length ≤ (M i).length) (hL : L ≤ (M i).length) (hw : Weak nt tm mem (T i) (M i)) :
    AW P nt (.seq (.label l) R) tm mem (Jmp l J Q) := by
  refine AW.seq (AW.label ?_)
  intro ρ a w hr
  obtain ⟨ρ', hr', hs⟩ := hw ρ a w hr
  refine wp_mono (pass i hi ρ' a w hr') ?_
  rintro e a' w' ⟨ρ2, tm2, mem2, hr2, hs2, hd, hq⟩
  refine ⟨ρ2, tm2, mem2, hr2, (hs mem ρ w hlen (Step.refl _ _ _)).trans hs2, hd, ?_⟩
  cases e with
  | goto l' => obtain ⟨rfl, j, hj, _, hw2, hl2⟩ := hq; exact ⟨rfl, hJ j _ _ hj hw2 (Nat.le_trans hL hl2)⟩
  | _ => exact hq
theorem Jmp_n {l : Nat} {J : Tm → AMem → Prop} {tm' : Tm} {m' : AMem} (h : Q .normal tm' m') : Jmp l J Q .normal tm' m' := h
theorem Jmp_r {l : Nat} {J : Tm → AMem → Prop} {tm' : Tm} {m' : AMem} (h : Q .ret tm' m') : Jmp l J Q .ret tm' m' := h
theorem Jmp_e {l id : Nat} {J : Tm → AMem → Prop} {tm' : Tm} {m' : AMem} (h : Q (.exit id) tm' m') : Jmp l J Q (.exit id) tm' m' := h
theorem Jmp_g {l : Nat} {J : Tm → AMem → Prop} {tm' : Tm} {m' : AMem} (h : J tm' m') : Jmp l J Q (.goto l) tm' m' := ⟨rfl, h⟩
theorem Thn_g {K : Tm → AMem → Prop} {tm' : Tm} {m' : AMem} {l : Nat} (h : Q (.goto l) tm' m') : Thn K Q (.goto l) tm' m' := h
theorem InB_g {id : Nat} {tm' : Tm} {m' : AMem} {l : Nat} (h : Q (.goto l) tm' m') : InB id Q (.goto l) tm' m' := h
end
end Go.Eng

/-
  ENGINE, PART S: the machine of part O, with scopes in which the run jumps back to a label.
-/
set_option linter.unusedVariables false
set_option linter.unusedSimpArgs false
namespace Go.Eng
open Go

def rJump (run : Code → Tm → AMem → Option (Exit × Tm × AMem)) (l : Nat) (rest : Code) : Nat → Tm → AMem → Option (Exit × Tm × AMem)
  | 0, _, _ => none
  | n + 1, tm, mem => match run rest tm mem with
    | some (.goto l', tm', mem') => if l' = l ∧ mem.length ≤ mem'.length then rJump run l rest n tm' mem' else none
    | r => r

section
variable (P : Program) (call : Caller) (pls : Nat → List Plan) (nt L : Nat) (jump : Code → Tm → AMem → Option (Exit × Tm × AMem))
def rCodeS : Code → Tm → AMem → Option (Exit × Tm × AMem)
  | .skip, tm, mem => some (.normal, tm, mem)
  | .ret, tm, mem => some (.ret, tm, mem)
  | .exit id, tm, mem => some (.exit id, tm, mem)
  | .seq x y, tm, mem => match rCodeS x tm mem with
    | some (.normal, tm', mem') => rCodeS y tm' mem'
    | r => r
  | .block id c, tm, mem => match rCodeS c tm mem with
    | some (.exit id', tm', mem') => if id' = id then some (.normal, tm', mem') else some (.exit id', tm', mem')
    | r => r
  | .cond c x y, tm, mem => match opd tm c with
    | .one (.bool true) => rCodeS x tm mem
    | .one (.bool false) => rCodeS y tm mem
    | _ => none
  | .loop c, tm, mem => rLoop (rCodeS c) L tm mem
  | .region id ops false, tm, mem => if ops.toList.all (dstOk nt) = true then (rOps P call ops ops.toList tm mem).map fun x => (.normal, x.1, x.2) else none
  | .region id ops true, tm, mem => if (pls id).length = ops.toList.length ∧ planOk nt (ops.toList.zip (pls id)) = true then
      (rOpsD P call ops (ops.toList.zip (pls id)) tm mem [mem] []).map fun x => (.normal, x.1, x.2) else none
  | .label l, tm, mem => some (.normal, tm, mem)
  | .goto l, tm, mem => some (.goto l, tm, mem)
  | .scope c, tm, mem => match rCodeS c tm mem with
    | some (.goto l, tm', mem') => match findLabel c l with
      | some rest => if mem.length ≤ mem'.length then rJump jump l rest L tm' mem' else none
      | none => none
    | r => r
  | _, _, _ => none
end

def rFuncS (P : Program) (pls : Nat → Nat → List Plan) (L : Nat) : Nat → Caller
  | 0, _, _, _ => none
  | n + 1, g, args, mem => match P.funcs[g]? with
    | some fn => match fn.body with
      | some c => if (fn.name == "runtime.NumGoroutine") = false then
          match rCodeS P (rFuncS P pls L n) (pls g) fn.ntmps L (rCodeS P (rFuncS P pls L n) (pls g) fn.ntmps L (fun _ _ _ => none)) c (enterTm 0 args) mem with
          | some (.normal, tm, m) => (resA P fn.results.toList tm m).map fun x => (x, m)
          | some (.ret, tm, m) => (resA P fn.results.toList tm m).map fun x => (x, m)
          | _ => none
        else none
      | none => none
    | none => none


/-- So many passes more from the label. -/
def Rn (P : Program) (nt l : Nat) (rest : Code) (Q : Exit → Tm → AMem → Prop) : Nat → Tm → AMem → Prop
  | 0, _, _ => False
  | n + 1, tm, mem => AW P nt rest tm mem (Jmp l (fun tm' mem' => mem.length ≤ mem'.length ∧ Rn P nt l rest Q n tm' mem') Q)
def JumpOk (P : Program) (nt : Nat) (jump : Code → Tm → AMem → Option (Exit × Tm × AMem)) : Prop :=
  ∀ c tm mem ex tm' mem' (Q : Exit → Tm → AMem → Prop), jump c tm mem = some (ex, tm', mem') → Q ex tm' mem' → AW P nt c tm mem Q
section
variable {P : Program} {call : Caller} {pls : Nat → List Plan} {nt L : Nat}
theorem rJump_ok {jump : Code → Tm → AMem → Option (Exit × Tm × AMem)} (hj : JumpOk P nt jump) {l : Nat} {rest : Code} : ∀ (n : Nat) (tm : Tm) (mem : AMem) (ex : Exit) (tm' : Tm) (mem' : AMem) (Q : Exit → Tm → AMem → Prop),
    rJump jump l rest n tm mem = some (ex, tm', mem') → Q ex tm' mem' → Rn P nt l rest Q n tm mem
  | 0, _, _, _, _, _, _, h, _ => by cases h
  | n + 1, tm, mem, ex, tm', mem', Q, h, hq => by
    simp only [rJump] at h
    rw [Rn]
    split at h
    · rename_i l' tm1 mem1 h1
      split at h
      · rename_i hle
        obtain ⟨rfl, hle⟩ := hle
        exact hj _ _ _ _ _ _ _ h1 ⟨rfl, hle, rJump_ok hj n _ _ _ _ _ Q h hq⟩
      · cases h
    · rename_i r hne
      refine hj _ _ _ _ _ _ _ h ?_
      cases ex with
      | goto l' => exact absurd h (hne _ _ _)
      | _ => exact hq
theorem Weak.rfl0 {tm : Tm} {mem : AMem} : Weak nt tm mem tm mem := fun ρ a w hr => ⟨ρ, hr, fun _ _ _ _ h => h⟩
theorem AW.scopeNo {c : Code} {tm : Tm} {mem : AMem} {Q : Exit → Tm → AMem → Prop} (h : AW P nt c tm mem (fun e tm' mem' => (∀ l, e ≠ .goto l) ∧ Q e tm' mem')) : AW P nt (.scope c) tm mem Q := by
  intro ρ a w hr
  refine wp_scope_straight (wp_mono (h ρ a w hr) ?_)
  rintro e a' w' ⟨ρ', tm', mem', hr', hs, hd, hne, hq⟩
  cases e with
  | goto l' => exact absurd rfl (hne l')
  | _ => exact ⟨ρ', tm', mem', hr', hs, hd, hq⟩
theorem AW.scopeRun {c rest : Code} {tm : Tm} {mem : AMem} {Q : Exit → Tm → AMem → Prop} (l : Nat) (hf : findLabel c l = some rest) (n : Nat)
    (h : AW P nt c tm mem (Jmp l (fun tm' mem' => mem.length ≤ mem'.length ∧ Rn P nt l rest Q n tm' mem') Q)) : AW P nt (.scope c) tm mem Q := by
  refine AW.scope (ι := { x : Nat × Tm × AMem // Rn P nt l rest Q x.1 x.2.1 x.2.2 }) l hf (fun x => x.1.2.1) (fun x => x.1.2.2) (fun x => x.1.1) (fun x => ?_) ?_
  · obtain ⟨⟨n, tm1, mem1⟩, hx⟩ := x
    cases n with
    | zero => exact hx.elim
    | succ n =>
      refine AW.mono hx fun e tm' mem' hq => ?_
      cases e with
      | goto l' => obtain ⟨rfl, hle, hr⟩ := hq; exact ⟨rfl, ⟨(n, tm', mem'), hr⟩, Nat.lt_succ_self n, Weak.rfl0, hle⟩
      | _ => exact hq
  · refine h.mono fun e tm' mem' hq => ?_
    cases e with
    | goto l' => obtain ⟨rfl, hle, hr⟩ := hq; exact ⟨rfl, ⟨(n, tm', mem'), hr⟩, Weak.rfl0, hle⟩
    | _ => exact hq
theorem rCodeS_ok (hc : CallOk P call) {jump : Code → Tm → AMem → Option (Exit × Tm × AMem)} (hj : JumpOk P nt jump) (hfol : P.follows .mixedOrders = true) : ∀ (c : Code) (tm : Tm) (mem : AMem) (ex : Exit) (tm' : Tm) (mem' : AMem) (Q : Exit → Tm → AMem → Prop),
    rCodeS P call pls nt L jump c tm mem = some (ex, tm', mem') → Q ex tm' mem' → AW P nt c tm mem Q := by
  intro c
  induction c with
  | skip => intro tm mem ex tm' mem' Q h hq; simp only [rCodeS, Option.some.injEq, Prod.mk.injEq] at h; obtain ⟨rfl, rfl, rfl⟩ := h; exact AW.skip hq
  | ret => intro tm mem ex tm' mem' Q h hq; simp only [rCodeS, Option.some.injEq, Prod.mk.injEq] at h; obtain ⟨rfl, rfl, rfl⟩ := h; exact AW.ret hq
  | exit id => intro tm mem ex tm' mem' Q h hq; simp only [rCodeS, Option.some.injEq, Prod.mk.injEq] at h; obtain ⟨rfl, rfl, rfl⟩ := h; exact AW.exit hq
  | seq x y ihx ihy =>
    intro tm mem ex tm' mem' Q h hq
    simp only [rCodeS] at h
    split at h
    · rename_i tm1 mem1 h1
      exact AW.seq (ihx _ _ _ _ _ _ h1 (ihy _ _ _ _ _ _ h hq))
    · rename_i r hne
      have hex : ex ≠ .normal := by rintro rfl; exact hne _ _ h
      refine AW.seq (ihx _ _ _ _ _ _ h ?_)
      cases ex with
      | normal => exact absurd rfl hex
      | _ => exact hq
  | block id c ih =>
    intro tm mem ex tm' mem' Q h hq
    simp only [rCodeS] at h
    refine AW.block ?_
    split at h
    · rename_i id' tm1 mem1 h1
      refine ih _ _ _ _ _ _ h1 ?_
      split at h
      · rename_i he
        simp only [Option.some.injEq, Prod.mk.injEq] at h; obtain ⟨rfl, rfl, rfl⟩ := h
        subst he; exact InB_here hq
      · rename_i he
        simp only [Option.some.injEq, Prod.mk.injEq] at h; obtain ⟨rfl, rfl, rfl⟩ := h
        exact InB_far he hq
    · rename_i r hne
      refine ih _ _ _ _ _ _ h ?_
      cases ex with
      | exit id' => exact absurd h (hne _ _ _)
      | _ => exact hq
  | cond c x y ihx ihy =>
    intro tm mem ex tm' mem' Q h hq
    simp only [rCodeS] at h
    split at h
    · rename_i hb; exact AW.cond_t hb (ihx _ _ _ _ _ _ h hq)
    · rename_i hb; exact AW.cond_f hb (ihy _ _ _ _ _ _ h hq)
    · cases h
  | loop c ih =>
    intro tm mem ex tm' mem' Q h hq
    simp only [rCodeS] at h
    exact AW.rounds L (rLoop_ok ih _ _ _ _ _ _ _ h hq)
  | region id ops b =>
    intro tm mem ex tm' mem' Q h hq
    cases b with
    | false =>
      simp only [rCodeS] at h
      split at h
      · rename_i hd
        simp only [Option.map_eq_some_iff, Prod.mk.injEq] at h
        obtain ⟨⟨tm1, mem1⟩, h1, rfl, rfl, rfl⟩ := h
        have h2 : AOps P ops ops.toList tm mem (Q .normal) := rOps_ok hc _ _ _ _ _ _ h1 hq
        have h3 := AW.region (P := P) (nt := nt) (id := id) (l := ops.toList) (tm := tm) (mem := mem) (Q := Q) hd (by simpa using h2)
        simpa using h3
      · cases h
    | true =>
      simp only [rCodeS] at h
      split at h
      · rename_i hd
        simp only [Option.map_eq_some_iff, Prod.mk.injEq] at h
        obtain ⟨⟨tm1, mem1⟩, h1, rfl, rfl, rfl⟩ := h
        have h2 := rOpsD_ok hc _ _ _ _ _ _ _ (Q .normal) h1 hq
        have h3 := AW.draw (P := P) (nt := nt) (id := id) (l := ops.toList) (tm := tm) (mem := mem) (Q := Q) (pls id) hfol hd.1 hd.2 (by simpa using h2)
        simpa using h3
      · cases h
  | label l => intro tm mem ex tm' mem' Q h hq; simp only [rCodeS, Option.some.injEq, Prod.mk.injEq] at h; obtain ⟨rfl, rfl, rfl⟩ := h; exact AW.label hq
  | goto l => intro tm mem ex tm' mem' Q h hq; simp only [rCodeS, Option.some.injEq, Prod.mk.injEq] at h; obtain ⟨rfl, rfl, rfl⟩ := h; exact AW.goto hq
  | scope c ih =>
    intro tm mem ex tm' mem' Q h hq
    simp only [rCodeS] at h
    split at h
    · rename_i l tm1 mem1 h1
      split at h
      · rename_i rest hf
        split at h
        · rename_i hle
          have h2 := rJump_ok hj L tm1 mem1 ex tm' mem' Q h hq
          exact AW.scopeRun l hf L (ih _ _ _ _ _ (Jmp l (fun tm' mem' => mem.length ≤ mem'.length ∧ Rn P nt l rest Q L tm' mem') Q) h1 ⟨rfl, hle, h2⟩)
        · cases h
      · cases h
    · rename_i r hne
      exact AW.scopeNo (ih _ _ _ _ _ _ h ⟨fun l e => by subst e; exact hne _ _ _ h, hq⟩)
  | _ => intro tm mem ex tm' mem' Q h hq; simp only [rCodeS] at h; cases h
end
theorem rFuncS_ok {P : Program} {pls : Nat → Nat → List Plan} {L : Nat} (hfol : P.follows .mixedOrders = true) : ∀ n : Nat, CallOk P (rFuncS P pls L n)
  | 0 => fun g args mem ret mem' h => by cases h
  | n + 1 => fun g args mem ret mem' h => by
    simp only [rFuncS] at h
    split at h
    · rename_i fn hfn
      split at h
      · rename_i c hb
        split at h
        · rename_i hname
          have ok := rFuncS_ok (P := P) (pls := pls) (L := L) hfol n
          split at h
          · rename_i tm m hr
            simp only [Option.map_eq_some_iff, Prod.mk.injEq] at h
            obtain ⟨x, hx, rfl, rfl⟩ := h
            exact Ctr.of_body hfn hb hname fun hw => rCodeS_ok ok (rCodeS_ok ok (fun c tm mem ex tm' mem' Q h _ => by cases h) hfol) hfol _ _ _ _ _ _ _ hr ⟨.inl rfl, x, hx, Hands.all⟩
          · rename_i tm m hr
            simp only [Option.map_eq_some_iff, Prod.mk.injEq] at h
            obtain ⟨x, hx, rfl, rfl⟩ := h
            exact Ctr.of_body hfn hb hname fun hw => rCodeS_ok ok (rCodeS_ok ok (fun c tm mem ex tm' mem' Q h _ => by cases h) hfol) hfol _ _ _ _ _ _ _ hr ⟨.inr rfl, x, hx, Hands.all⟩
          · cases h
        · cases h
      · cases h
    · cases h

/-- A call whose arguments are known, reckoned by the machine. -/
theorem Ctr.runS {P : Program} {f : FuncId} {args : List AV} {ret : AV} (pls : Nat → Nat → List Plan) (L n : Nat) (hfol : P.follows .mixedOrders = true) (h : ((rFuncS P pls L n f args []).map (·.1)) = some ret) (ha : ∀ a, a ∈ args → a.below 0 = true) (hr : ret.below 0 = true) (m : AMem) : Ctr P f args m ret m := by
  rw [Option.map_eq_some_iff] at h
  obtain ⟨⟨x, mem'⟩, h1, rfl⟩ := h
  exact Ctr.closed (rFuncS_ok hfol n _ _ _ _ _ h1) ha hr m
end Go.Eng

/-
  ENGINE, PART T: a row of our own is cut short (what lies behind is spare).
-/
set_option linter.unusedVariables false
namespace Go.Eng
open Go
variable {P : Program} {nt : Nat} {tm : Tm} {mem : AMem}
theorem All2.take_left {α β : Type} {R : α → β → Prop} : ∀ {xa : List α} {bs : List β} (k : Nat), All2 R xa bs → ∃ xs sp, bs = xs ++ sp ∧ All2 R (xa.take k) xs
  | xa, bs, 0, _ => ⟨[], bs, rfl, by rw [List.take_zero]; trivial⟩
  | [], [], _ + 1, _ => ⟨[], [], rfl, trivial⟩
  | a :: xa, b :: bs, k + 1, h => by
    obtain ⟨xs, sp, e, h2⟩ := All2.take_left k h.2
    exact ⟨b :: xs, sp, by rw [e]; rfl, h.1, h2⟩
theorem BlkR.cut {ρ : Env} {w : World} {r : Nat} {b : Blk} (hb : BlkR ρ w r b) (hk : b.kind = .grow) (k : Nat) : BlkR ρ w r { b with cells := b.cells.take k } := by
  obtain ⟨kind, ty, ver, esz, cells⟩ := b
  simp only at hk
  subst hk
  rcases hb with ⟨h1, h2⟩ | ⟨n, c, cap, xs, sp, h1, h2, h3, h4, h5, h6⟩
  · simp only at h1; subst h1; exact .inl ⟨by simp, h2⟩
  · obtain ⟨ys, tp, e, h7⟩ := All2.take_left k h6
    exact .inr ⟨n, c, cap, ys, tp ++ sp, h1, h2, h3, h4, by rw [h5, e, List.append_assoc], h7⟩
theorem AW.cut {c : Code} {Q : Exit → Tm → AMem → Prop} (r k : Nat) {b : Blk} (hb : mem[r]? = some b) (hk : b.kind = .grow)
    (h : AW P nt c tm (mem.set r { b with cells := b.cells.take k }) Q) : AW P nt c tm mem Q := by
  intro ρ a w hr
  have hrl := (List.getElem?_eq_some_iff.1 hb).1
  have hgt : ∀ {s : Nat} {d : Blk}, (mem.set r { b with cells := b.cells.take k })[s]? = some d → (s ≠ r ∧ mem[s]? = some d) ∨ (s = r ∧ d = { b with cells := b.cells.take k }) := by
    intro s d hd
    by_cases hs : s = r
    · subst hs; rw [List.getElem?_set_self hrl] at hd; injection hd with hd; exact .inr ⟨rfl, hd.symm⟩
    · rw [List.getElem?_set_ne (fun e => hs e.symm)] at hd; exact .inl ⟨hs, hd⟩
  have hold : ∀ {s : Nat} {d : Blk}, (mem.set r { b with cells := b.cells.take k })[s]? = some d → ∃ d0, mem[s]? = some d0 ∧ d0.kind = d.kind ∧ d0.ver = d.ver ∧ (d.kind = .ro → d0 = d) := by
    intro s d hd
    rcases hgt hd with ⟨_, h1⟩ | ⟨e1, e2⟩
    · exact ⟨d, h1, rfl, rfl, fun _ => rfl⟩
    · subst e1; subst e2; exact ⟨b, hb, rfl, rfl, fun h => by rw [hk] at h; cases h⟩
  have hm : RepM ρ (mem.set r { b with cells := b.cells.take k }) w := by
    refine ⟨fun s d hd => ?_, fun s v hs => hr.mem.dom s v (by simpa using hs), fun s d v hd hv => ?_, fun s t d e hd he hne hkd hke x y i j hx hy => ?_⟩
    · rcases hgt hd with ⟨_, h1⟩ | ⟨e1, e2⟩
      · exact hr.mem.blk s d h1
      · subst e1; subst e2; exact (hr.mem.blk s b hb).cut hk k
    · obtain ⟨d0, h1, _, h3, _⟩ := hold hd
      exact hr.mem.domv s d0 v h1 (by omega)
    · obtain ⟨d0, h1, h2, h3, _⟩ := hold hd
      obtain ⟨e0, g1, g2, g3, g4⟩ := hold he
      refine hr.mem.sep s t d0 e0 h1 g1 hne (by rw [h2]; exact hkd) (fun hro => ?_) x y i j (by rw [h3]; exact hx) (by rw [g3]; exact hy)
      rw [g4 (by rw [← g2]; exact hro)]; exact hke (by rw [← g2]; exact hro)
  refine wp_mono (h ρ a w ⟨hr.size, hr.tm, hm⟩) ?_
  rintro e a' w' ⟨ρ2, tm2, mem2, hr2, hs2, hd, hq⟩
  refine ⟨ρ2, tm2, mem2, hr2, ?_, hd, hq⟩
  refine ⟨hs2.os, hs2.tape, hs2.output, hs2.size, by have := hs2.len; simpa using this, fun s hs v x hx => hs2.ext s (by simpa using hs) v x hx, fun s d d' h1 h2 => ?_, fun s d' h1 h2 => ?_, fun n hn hne => ?_, fun s d' x i h1 h2 h3 => ?_⟩
  · by_cases hs : s = r
    · subst hs
      rw [hb] at h1; injection h1 with h1; subst h1
      exact hs2.kind s { b with cells := b.cells.take k } d' (List.getElem?_set_self hrl) h2
    · exact hs2.kind s d d' (by rw [List.getElem?_set_ne (fun e => hs e.symm)]; exact h1) h2
  · have := hs2.ro s d' h1 h2
    rcases hgt this with ⟨_, h3⟩ | ⟨e1, e2⟩
    · exact h3
    · subst e2; rw [hk] at h2; cases h2
  · refine hs2.frame n hn fun s d x i h1 h2 h3 => ?_
    obtain ⟨d0, g1, g2, g3, _⟩ := hold h1
    exact hne s d0 x i g1 (by rw [g2]; exact h2) (by rw [g3]; exact h3)
  · rcases hs2.fresh s d' x i h1 h2 h3 with h | ⟨t, d, y, l, h1, h2, h3, h4⟩
    · exact .inl h
    · obtain ⟨d0, g1, g2, g3, _⟩ := hold h1
      exact .inr ⟨t, d0, y, l, g1, by rw [g2]; exact h2, by rw [g3]; exact h3, h4⟩
end Go.Eng

/-
  ENGINE, PART U: a row held against nil, of which nothing more is known; a nil row taken as one of our own, of any version.
-/
set_option linter.unusedVariables false
namespace Go.Eng
open Go
variable {P : Program}
theorem aops_app {nt : Nat} {ops : Array Oper} {last : List Oper} : ∀ (l : List Oper) (tm : Tm) (mem : AMem) (K : Tm → AMem → Prop), l.all (dstOk nt) = true → AOps P ops l tm mem K →
    ∀ (ρ : Env) (a : Act) (w : World) (Q : Exit → Act → World → Prop), Rep ρ nt tm mem a w →
      (∀ ρ' tm' mem' a' w', Rep ρ' nt tm' mem' a' w' → Step mem ρ w mem' ρ' w' → a'.defers = a.defers → K tm' mem' → wpList P ops Q last a' w') → wpList P ops Q (l ++ last) a w
  | [], tm, mem, K, _, h, ρ, a, w, Q, hr, hQ => hQ ρ tm mem a w hr (Step.refl _ _ _) rfl h
  | o :: rest, tm, mem, K, hd, h, ρ, a, w, Q, hr, hQ => by
    simp only [List.all_cons, Bool.and_eq_true] at hd
    have hdef : ∀ v, (a.put o.dst v).defers = a.defers := fun v => by cases o.dst <;> rfl
    simp only [AOps] at h
    rw [List.cons_append]
    unfold wpList
    split at h
    · rename_i hw
      rw [if_pos (wantedA_sound hr hw)]
      refine .inl ?_
      unfold Oper.wp
      split at h
      · rename_i t x y hop
        split at h
        · rename_i mem' hs
          obtain ⟨w', hrun, hm, hst⟩ := run_storeA P hr.mem hs (hr.opd x) (hr.opd y)
          have he : (execOp a.eval o).run P w = .ok .skip w' := by rw [ex_store hop]; simp only [Sem.run_bind, hrun, Result.andThen_ok, Sem.run_pure]
          rw [he, Oper.upon_skip]
          refine aops_app rest _ mem' K hd.2 h ρ _ w' Q ((hr.step hst hm).putO hd.1 (x := .one .und) rfl) fun ρ' tm' mem'' a' w'' r s d k => hQ ρ' tm' mem'' a' w'' r (hst.trans s) (d.trans (hdef _)) k
        · exact h.elim
      · rename_i f args ts hop
        split at h
        · rename_i g cs hf
          obtain ⟨ret, mem', hg, h⟩ := h
          have hfv := hr.opd f
          rw [hf] at hfv
          obtain ⟨vs, hfe, hcaps⟩ := hfv
          have hargs : All2 (VR ρ) (args.toList.map (opd tm)) (args.toList.map a.eval) := All2_map (fun y => hr.opd y) args.toList
          have hc := hg ρ w _ hr.mem (hargs.append (capsAV_sound hcaps))
          have hea : (args.toList.map a.eval ++ vs.toList).toArray = args.map a.eval ++ vs := by
            apply Array.ext'; simp
          rw [hea] at hc
          have he0 : (execOp a.eval o).run P w = (callFunc g (args.map a.eval ++ vs)).run P w := by
            rw [ex_call hop]
            simp only [resolve, hfe, Deferred.ofValue, Sem.run_bind, Sem.run_pure, Result.andThen_ok, invoke, Array.empty_append]
          rcases hc with ⟨⟨fn, hfn, hname, hbody⟩, hc⟩ | ⟨v, w', hrun, v', ρ', he', hv, hm, hst⟩
          · have he : (execOp a.eval o).run P w = .ok (.enter g (args.map a.eval ++ vs)) w := by
              rw [he0]
              simp only [Sem.run_bind, Sem.run_pure, Result.andThen_ok, callFunc, run_program, hfn, hname, hbody, Bool.false_eq_true, if_false]
            rw [he, Oper.upon_enter]
            refine hc.mono fun e w' ⟨v, ρ', he', hv, hm, hst⟩ => ?_
            subst he'
            exact aops_app rest _ mem' K hd.2 h ρ' _ w' Q ((hr.step hst hm).putO hd.1 hv) fun ρ'' tm' mem'' a' w'' r s d k => hQ ρ'' tm' mem'' a' w'' r (hst.trans s) (d.trans (hdef _)) k
          · injection he' with he'; subst he'
            rw [he0, hrun, Oper.upon_value]
            exact aops_app rest _ mem' K hd.2 h ρ' _ w' Q ((hr.step hst hm).putO hd.1 hv) fun ρ'' tm' mem'' a' w'' r s d k => hQ ρ'' tm' mem'' a' w'' r (hst.trans s) (d.trans (hdef _)) k
        · exact h.elim
      · split at h
        · rename_i x mem' hv
          obtain ⟨v, w', ρ', hrun, hvr, hm, hst⟩ := evVal_sound hr hv
          have hup : ∀ K', Oper.upon P o a K' Q ((execOp a.eval o).run P w) = K' (a.put o.dst v) w' := fun K' => by
            rcases hrun with hrun | ⟨hrun, rfl⟩
            · rw [hrun, Oper.upon_value]
            · rw [hrun, Oper.upon_skip]
          rw [hup]
          exact aops_app rest _ mem' K hd.2 h ρ' _ w' Q ((hr.step hst hm).putO hd.1 hvr) fun ρ'' tm' mem'' a' w'' r s d k => hQ ρ'' tm' mem'' a' w'' r (hst.trans s) (d.trans (hdef _)) k
        · exact h.elim
    · rename_i hw
      rw [if_neg (by rw [wantedA_sound hr hw]; simp)]
      exact aops_app rest _ mem K hd.2 h ρ _ w Q (hr.putO hd.1 (x := .one .und) rfl) fun ρ'' tm' mem'' a' w'' r s d k => hQ ρ'' tm' mem'' a' w'' r s (d.trans (hdef _)) k
    · exact h.elim


def nilEqA (P : Program) (f : Operand → AV) : Op → Bool
  | .binOp .eql t x y _ => match P.underlying t, f x, f y with
    | some (.slice _), .one (.sl _ _ _ _), .one .nils => true
    | _, _, _ => false
  | _ => false
theorem run_eqNil {ρ : Env} {t e : TypeId} {r v off len : Nat} {u x : Value} (ht : P.underlying t = some (.slice e)) (hx : VR ρ (.one (.sl r v off len)) u) (hy : VR ρ (.one .nils) x) (o1 o2 : Operand) (w : World) :
    ∃ b, ((do eqGuard .eql t o1 o2 u x; binOp .eql t u x) : Sem Value).run P w = .ok (.bool b) w := by
  have e2 : x = _ := hy
  subst e2
  obtain ⟨A, c0, B, c, _, rfl, _, _, _⟩ := hx
  refine ⟨B.isNone, ?_⟩
  cases B with
  | none => exact (eq_pair P (fun op h => by rw [eqGuard_at_slice]; rfl) rfl rfl (fun d => by simp [Op.equalIn, run_underlying ht])).1
  | some a => exact (eq_pair P (fun op h => by rw [eqGuard_at_slice]; rfl) rfl rfl (fun d => by simp [Op.equalIn, run_underlying ht])).1
variable {nt : Nat} {tm : Tm} {mem : AMem}
theorem AW.eqNil {id : Nat} {o1 o2 : Oper} {Q : Exit → Tm → AMem → Prop} (hd : [o1, o2].all (dstOk nt) = true)
    (h : AOps P [o1, o2].toArray [o1] tm mem fun tm' mem' => wantedA [o1, o2].toArray o2 tm' = some true ∧ nilEqA P (opd tm') o2.op = true ∧ ∀ b, Q .normal (putO o2.dst (.one (.bool b)) tm') mem') :
    AW P nt (.region id [o1, o2].toArray false) tm mem Q := by
  intro ρ a w hr
  refine wp_region_lit ?_
  simp only [List.all_cons, List.all_nil, Bool.and_true, Bool.and_eq_true] at hd
  refine aops_app (last := [o2]) [o1] tm mem _ (by simp [hd.1]) h ρ a w _ hr fun ρ' tm' mem' a' w' r s d k => ?_
  obtain ⟨hw, hn, hq⟩ := k
  unfold wpList
  rw [if_pos (wantedA_sound r hw)]
  refine .inl ?_
  unfold nilEqA at hn
  split at hn
  · rename_i t x y yt hop
    split at hn
    · rename_i e rr vv oo ll ht hx hy
      have h1 := r.opd x
      have h2 := r.opd y
      rw [hx] at h1
      rw [hy] at h2
      obtain ⟨b, hb⟩ := run_eqNil ht h1 h2 x y w'
      have he : (execOp a'.eval o2).run P w' = .ok (.value (.bool b)) w' := by
        rw [ex_binOp hop]
        simp only [Sem.run_bind] at hb ⊢
        rw [hb]; rfl
      unfold Oper.wp
      rw [he, Oper.upon_value]
      unfold wpList
      exact ⟨ρ', _, mem', r.putO hd.2 (x := .one (.bool b)) rfl, s, by cases o2.dst <;> exact d, hq b⟩
    · cases hn
  · cases hn
theorem nil_rowV {ver : Nat} {ρ : Env} {L : Nat} {v : Value} (h : VC ρ .nils v) : VC (ρ.set L ver (none, 0)) (.sl L ver 0 0) v := by
  have e : v = .slice none 0 0 := h
  subst e
  exact ⟨none, 0, none, 0, Env.set_same _ _ _ _, rfl, Nat.le_refl _, fun h => by omega, fun _ => ⟨rfl, rfl⟩⟩

theorem Rep.nilRowV (ver : Nat) {ρ : Env} {a : Act} {w : World} (hr : Rep ρ nt tm mem a w) (ty esz : Nat) (mem1 : AMem) (hlen : mem1.length = mem.length) (hk : ∀ (r : Nat) (b1 : Blk), mem1[r]? = some b1 → ∃ b, mem[r]? = some b ∧ b1.kind = b.kind ∧ b1.ver = b.ver ∧ (b.kind = .ro → b1 = b))
    (hb : ∀ (r : Nat) (b1 : Blk), mem1[r]? = some b1 → BlkR (ρ.set mem.length ver (none, 0)) w r b1) (tm1 : Tm) (ht : ∀ i, VR (ρ.set mem.length ver (none, 0)) (Tm.get tm1 i) (a.tmps.getD i undef)) :
    Rep (ρ.set mem.length ver (none, 0)) nt tm1 (mem1 ++ [⟨.grow, ty, ver, esz, []⟩]) a w ∧ ∀ m0 ρ0 w0, Step m0 ρ0 w0 mem ρ w → Step m0 ρ0 w0 (mem1 ++ [⟨.grow, ty, ver, esz, []⟩]) (ρ.set mem.length ver (none, 0)) w := by
  have hle : ρ.le (ρ.set mem.length ver (none, 0)) := Env.le_set (hr.mem.dom _ _ (Nat.le_refl _))
  have hgt : ∀ {s : Nat} {d : Blk}, (mem1 ++ [⟨.grow, ty, ver, esz, []⟩])[s]? = some d → (s < mem.length ∧ mem1[s]? = some d) ∨ (s = mem.length ∧ d = ⟨.grow, ty, ver, esz, []⟩) := by
    intro s d hd
    rcases Nat.lt_or_ge s mem1.length with h | h
    · rw [List.getElem?_append_left h] at hd; exact .inl ⟨by omega, hd⟩
    · rw [List.getElem?_append_right h] at hd
      have hl := (List.getElem?_eq_some_iff.1 hd).1
      simp at hl
      have : s = mem.length := by omega
      subst this
      simp [hlen] at hd
      exact .inr ⟨rfl, hd.symm⟩
  have hoth : ∀ {s v : Nat}, s < mem.length → ρ.set mem.length ver (none, 0) s v = ρ s v := fun {s v} h => Env.set_other ρ _ (by omega)
  refine ⟨⟨hr.size, ht, ⟨?_, ?_, ?_, ?_⟩⟩, ?_⟩
  · intro s d hd
    rcases hgt hd with ⟨_, h1⟩ | ⟨rfl, rfl⟩
    · exact hb s d h1
    · exact .inl ⟨rfl, Env.set_same _ _ _ _⟩
  · intro s v hs
    simp at hs
    rw [Env.set_other ρ _ (by omega)]
    exact hr.mem.dom s v (by omega)
  · intro s d v hd hv
    rcases hgt hd with ⟨hl, h1⟩ | ⟨rfl, rfl⟩
    · obtain ⟨b, h2, _, h3, _⟩ := hk s d h1
      rw [hoth hl]; exact hr.mem.domv s b v h2 (by omega)
    · simp only at hv
      rw [Env.set_other ρ _ (by omega)]
      exact hr.mem.dom _ _ (Nat.le_refl _)
  · intro s t d e hd he hst hkd hne x y k1 k2 hx hy
    rcases hgt hd with ⟨hl, h1⟩ | ⟨rfl, rfl⟩
    · rcases hgt he with ⟨hl', h1'⟩ | ⟨rfl, rfl⟩
      · obtain ⟨b, h2, h3, h4, h5⟩ := hk s d h1
        obtain ⟨b', h2', h3', h4', h5'⟩ := hk t e h1'
        rw [hoth hl, h4] at hx
        rw [hoth hl', h4'] at hy
        exact hr.mem.sep s t b b' h2 h2' hst (by rw [← h3]; exact hkd) (fun h => by rw [← h5' h]; exact hne (by rw [h3']; exact h)) x y k1 k2 hx hy
      · simp only [Env.set_same] at hy
        injection hy with hy; injection hy with hy _; cases hy
    · simp only [Env.set_same] at hx
      injection hx with hx; injection hx with hx _; cases hx
  · intro m0 ρ0 w0 hs
    refine ⟨hs.os, hs.tape, hs.output, hs.size, ?_, fun r hr v x hx => hle _ _ _ (hs.ext r hr v x hx), ?_, ?_, ?_, ?_⟩
    · have := hs.len; simp; omega
    · intro r b b' hb0 hb'
      have hl0 := (List.getElem?_eq_some_iff.1 hb0).1
      have := hs.len
      rcases hgt hb' with ⟨hl, h1⟩ | ⟨rfl, rfl⟩
      · obtain ⟨b2, h2, h3, _, _⟩ := hk r b' h1
        rw [h3]; exact hs.kind r b b2 hb0 h2
      · omega
    · intro r b' hb' hro
      rcases hgt hb' with ⟨hl, h1⟩ | ⟨rfl, rfl⟩
      · obtain ⟨b2, h2, h3, _, h5⟩ := hk r b' h1
        have e := h5 (by rw [← h3]; exact hro)
        subst e
        exact hs.ro r b' h2 hro
      · cases hro
    · exact hs.frame
    · intro r b' x k hb' hkd hx
      rcases hgt hb' with ⟨hl, h1⟩ | ⟨rfl, rfl⟩
      · obtain ⟨b2, h2, h3, h4, h5⟩ := hk r b' h1
        rw [hoth hl, h4] at hx
        exact hs.fresh r b2 x k h2 (by rw [← h3]; exact hkd) hx
      · simp only [Env.set_same] at hx
        injection hx with hx; injection hx with hx _; cases hx

/-- The same of a temporary. -/
theorem AW.nilTmV {c : Code} {Q : Exit → Tm → AMem → Prop} (ty esz : Nat) (ver : Nat) (d : Nat) (hd : Tm.get tm d = .one .nils)
    (h : AW P nt c ((d, .one (.sl mem.length ver 0 0)) :: tm) (mem ++ [⟨.grow, ty, ver, esz, []⟩]) Q) : AW P nt c tm mem Q := by
  intro ρ a w hr
  have hle : ρ.le (ρ.set mem.length ver (none, 0)) := Env.le_set (hr.mem.dom _ _ (Nat.le_refl _))
  obtain ⟨h1, h2⟩ := hr.nilRowV ver ty esz mem rfl (fun s d hd => ⟨d, hd, rfl, rfl, fun _ => rfl⟩) (fun s d hd => (hr.mem.blk s d hd).mono hle) ((d, .one (.sl mem.length ver 0 0)) :: tm) (fun i => by
    rw [Tm.get_put]
    by_cases hi : i = d
    · subst hi
      rw [if_pos rfl]
      have := hr.tm i
      rw [hd] at this
      exact nil_rowV this
    · rw [if_neg hi]; exact (hr.tm i).mono hle)
  refine wp_mono (h _ a w h1) ?_
  rintro e a' w' ⟨ρ2, tm2, mem2, hr2, hs2, hd, hq⟩
  exact ⟨ρ2, tm2, mem2, hr2, (h2 mem ρ w (Step.refl _ _ _)).trans hs2, hd, hq⟩

end Go.Eng

/-
  ENGINE, PART V: from a contract to a row that bears a condition of its own and lists variables with what they hold.
-/
set_option linter.unusedVariables false
namespace Go.Eng
open Go
variable {H : Type} {enc : TypeId × Value → H}
theorem returns_row_cond {a : Assume} {C : Checked} {os : Os} {f : FuncId} {fn : Func} {s : OpenSpec} {k : (H : Type) → List (DataW H) → Bool} (hk : s.cond = some k) {F : Stop.Interp} {conds : List PathCond} {apart fresh handsOn again : Bool} {laid : List (String × DataW Unit)}
    (own : ownKnob C.prog.godebug = none) (started : os.Started) (noInit : C.prog.inits.idxOf? f = none) (hfn : C.prog.funcs[f]? = some fn)
    (witness : ∃ (w : World) (tape : Tape) (i : Input), w.os = os ∧ (w.forCall tape i).Shaped C.prog ∧ i.vars = [] ∧ Input.okWide C.prog (w.forCall tape i) .any w.heap.size f i ∧
      s.preRow enc C.prog fn conds apart laid (w.forCall tape i).memory i.args ∧ a.holds C.prog (lone (Frame.enter C.prog f i.args .normal) [] (w.forCall tape i)))
    (contract : ∀ (W : World) (base : Nat) (args : Array Value) (ds gs : List (DataW H)) (before : List MemPlace),
      (∀ (j : Nat) t v, fn.params[j]? = some t → args[j]? = some v → Value.okWide C.prog W .any base t v) →
      DataW.Whole enc C.prog fn.params.toList s.vars apart W args.toList ds gs before → k H (ds ++ gs) = true →
      Calls C.prog f args W fun e W' => ∃ v, e = .returned v ∧ (s.at F).post enc C.prog fn apart fresh handsOn again W args v W') :
    ReturnsInHanded a C os f .any (s.preRow enc C.prog fn conds apart laid) ((s.at F).post enc C.prog fn apart fresh handsOn again) := by
  refine returnsInHanded_of_calls own started noInit witness ?_
  intro w tape i _ _ _ hok hpre hholds
  obtain ⟨_, _, _, fn', hfn', _, _, _, _, hval⟩ := hok
  have e : fn' = fn := Option.some.inj (hfn'.symm.trans hfn)
  subst e
  obtain ⟨ds, gs, before, hw, hc, hkk⟩ := (OpenSpec.pre_some hk conds apart _ _).1 hpre.1.1
  have hw' := DataW.Whole.of_heap (w' := w.forCall tape i) (by rfl) hw
  refine (contract (w.forCall tape i) w.heap.size i.args ds gs before hval hw' hkk).mono fun e W' ⟨v, he, hp⟩ => ?_
  subst he
  exact ChangeSpec.post_blind hp
theorem witness_row {C : Checked} {os : Os} {f : FuncId} {fn : Func} {s : OpenSpec} {k : (H : Type) → List (DataW H) → Bool} (hk : s.cond = some k) {conds : List PathCond} {apart : Bool} {laid : List (String × DataW Unit)} (modest : Bool) (w0 : World) (args : Array Value) (fuel : Nat) (hos : w0.os = os)
    (hsh : (w0.forCall (fun _ _ => 0) ⟨#[], args, []⟩).Shaped C.prog)
    (hok : Input.okWideB C.prog (w0.forCall (fun _ _ => 0) ⟨#[], args, []⟩) f ⟨#[], args, []⟩ = true)
    {x : List (DataW H) × List (DataW H) × List MemPlace} (hx : DataW.whole enc C.prog (w0.forCall (fun _ _ => 0) ⟨#[], args, []⟩).memory fn.params.toList s.vars apart args.toList fuel = some x)
    (hconds : conds.all (PathCond.test C.prog ⟨fn.params.toList, x.1, s.bare.plain.varTypes C.prog, x.2.1⟩) = true) (hkk : k H (x.1 ++ x.2.1) = true)
    (hl : laidMetH C.prog laid (w0.forCall (fun _ _ => 0) ⟨#[], args, []⟩).memory)
    (hsz : s.bare.sizedB enc C.prog fn apart (w0.forCall (fun _ _ => 0) ⟨#[], args, []⟩).memory args fuel = true := by kernel_rfl) :
    ∃ (w : World) (tape : Tape) (i : Input), w.os = os ∧ (w.forCall tape i).Shaped C.prog ∧ i.vars = [] ∧ Input.okWide C.prog (w.forCall tape i) .any w.heap.size f i ∧
      s.preRow enc C.prog fn conds apart laid (w.forCall tape i).memory i.args ∧ ({ modest := modest } : Assume).holds C.prog (lone (Frame.enter C.prog f i.args .normal) [] (w.forCall tape i)) :=
  ⟨w0, fun _ _ => 0, ⟨#[], args, []⟩, hos, hsh, (Input.okWide_of_okWideB (base := 0) hok).1, (Input.okWide_of_okWideB hok).2,
    ⟨⟨(OpenSpec.pre_some hk conds apart _ _).2 ⟨x.1, x.2.1, x.2.2, DataW.Whole_of_whole hx, hconds, hkk⟩, hl⟩, sizedMet_of_sizedB hsz⟩, by
    simp only [Assume.holds]
    exact ⟨by simp, by simp, fun _ => Modest.zero, by simp, by simp⟩⟩
end Go.Eng

/-
  ENGINE, PART W: what a row of our own holds is handed on to another one (which bears a new version then); results beside a memory that was written.
-/
set_option linter.unusedVariables false
namespace Go.Eng
open Go
variable {P : Program} {nt : Nat} {tm : Tm} {mem : AMem}
theorem RetP.dropM {m1 : AMem} {L : Nat} {rs : List ResultVar} {ret : AV} {extra : AMem} {ex : Exit} (hl : m1.length = L) (hex : ex = .normal ∨ ex = .ret) (hres : resA P rs tm (m1 ++ extra) = some ret) (hb : ret.below L = true) (hw : MWf L m1) :
    RetP P rs L ret m1 ex tm (m1 ++ extra) := by
  subst hl; exact RetP.drop hex hres hb hw
theorem RetP.dropM0 {m1 : AMem} {L : Nat} {rs : List ResultVar} {ret : AV} {ex : Exit} (hl : m1.length = L) (hex : ex = .normal ∨ ex = .ret) (hres : resA P rs tm m1 = some ret) (hb : ret.below L = true) (hw : MWf L m1) :
    RetP P rs L ret m1 ex tm m1 := by
  subst hl; exact RetP.drop0 hex hres hb hw
theorem AW.moveP {c : Code} {Q : Exit → Tm → AMem → Prop} (old new d n : Nat) {b e : Blk} (hb : mem[old]? = some b) (hbk : b.kind = .grow) (he : mem[new]? = some e) (hek : e.kind = .grow) (hne : old ≠ new) (hd : Tm.get tm d = .one (.sl new e.ver 0 n))
    (h : ∀ ρ2 a w, ρ2 old (b.ver + 1) = ρ2 new e.ver → Rep ρ2 nt ((d, .one (.sl old (b.ver + 1) 0 n)) :: tm) ((mem.set old ⟨.grow, e.ty, b.ver + 1, e.esz, e.cells⟩).set new ⟨.grow, e.ty, e.ver + 1, e.esz, []⟩) a w →
      c.wp P (fun ex a' w' => ∃ ρ' tm' mem', Rep ρ' nt tm' mem' a' w' ∧ Step ((mem.set old ⟨.grow, e.ty, b.ver + 1, e.esz, e.cells⟩).set new ⟨.grow, e.ty, e.ver + 1, e.esz, []⟩) ρ2 w mem' ρ' w' ∧ a'.defers = a.defers ∧ Q ex tm' mem') a w) : AW P nt c tm mem Q := by
  intro ρ a w hr
  have hol := (List.getElem?_eq_some_iff.1 hb).1
  have hnl := (List.getElem?_eq_some_iff.1 he).1
  obtain ⟨x0, hx0⟩ : ∃ x, ρ new e.ver = some x := by
    have h1 := hr.tm d
    rw [hd] at h1
    obtain ⟨A, c0, B, cc, h2, _⟩ := h1
    exact ⟨_, h2⟩
  have hle1 : ρ.le (ρ.set old (b.ver + 1) x0) := Env.le_set (hr.mem.domv old b _ hb (by omega))
  have hle2 : (ρ.set old (b.ver + 1) x0).le ((ρ.set old (b.ver + 1) x0).set new (e.ver + 1) (none, 0)) := Env.le_set (by
    rw [Env.set_other ρ _ (fun hc => hne hc.1.symm)]; exact hr.mem.domv new e _ he (by omega))
  have hle : ρ.le ((ρ.set old (b.ver + 1) x0).set new (e.ver + 1) (none, 0)) := fun r v x hx => hle2 r v x (hle1 r v x hx)
  generalize hρ : (ρ.set old (b.ver + 1) x0).set new (e.ver + 1) (none, 0) = ρ2 at *
  have eo : ρ2 old (b.ver + 1) = some x0 := by rw [← hρ, Env.set_other _ _ (fun hc => hne hc.1), Env.set_same]
  have en : ρ2 new (e.ver + 1) = some (none, 0) := by rw [← hρ, Env.set_same]
  have eq : ∀ r v, r ≠ old → r ≠ new → ρ2 r v = ρ r v := fun r v h1 h2 => by rw [← hρ, Env.set_other _ _ (fun hc => h2 hc.1), Env.set_other _ _ (fun hc => h1 hc.1)]
  have hgt : ∀ {s : Nat} {q : Blk}, ((mem.set old ⟨.grow, e.ty, b.ver + 1, e.esz, e.cells⟩).set new ⟨.grow, e.ty, e.ver + 1, e.esz, []⟩)[s]? = some q →
      (s ≠ old ∧ s ≠ new ∧ mem[s]? = some q) ∨ (s = old ∧ q = ⟨.grow, e.ty, b.ver + 1, e.esz, e.cells⟩) ∨ (s = new ∧ q = ⟨.grow, e.ty, e.ver + 1, e.esz, []⟩) := by
    intro s q hq
    by_cases h1 : s = new
    · subst h1; rw [List.getElem?_set_self (by simpa using hnl)] at hq; injection hq with hq; exact .inr (.inr ⟨rfl, hq.symm⟩)
    · rw [List.getElem?_set_ne (fun h => h1 h.symm)] at hq
      by_cases h2 : s = old
      · subst h2; rw [List.getElem?_set_self hol] at hq; injection hq with hq; exact .inr (.inl ⟨rfl, hq.symm⟩)
      · rw [List.getElem?_set_ne (fun h => h2 h.symm)] at hq; exact .inl ⟨h2, h1, hq⟩
  have hblk : BlkR ρ2 w old ⟨.grow, e.ty, b.ver + 1, e.esz, e.cells⟩ := by
    have h1 := hr.mem.blk new e he
    obtain ⟨kind, ty, ver, esz, cells⟩ := e
    simp only at hek; subst hek
    rcases h1 with ⟨q1, q2⟩ | ⟨q, c1, cap, xs, sp, q1, q2, q3, q4, q5, q6⟩
    · refine .inl ⟨q1, ?_⟩
      rw [eo, ← hx0]; exact q2
    · refine .inr ⟨q, c1, cap, xs, sp, ?_, q2, q3, q4, q5, q6.mono fun _ _ => VC.mono hle⟩
      rw [eo, ← hx0]; exact q1
  have hsrc : ∀ {s : Nat} {q : Blk} {x : Addr} {k : Nat}, ((mem.set old ⟨.grow, e.ty, b.ver + 1, e.esz, e.cells⟩).set new ⟨.grow, e.ty, e.ver + 1, e.esz, []⟩)[s]? = some q → ρ2 s q.ver = some (some x, k) →
      ∃ s0 q0, mem[s0]? = some q0 ∧ ρ s0 q0.ver = some (some x, k) ∧ q0.kind = q.kind ∧ (s0 = s ∧ q0 = q ∨ s = old ∧ s0 = new) ∧ s ≠ new := by
    intro s q x k hq hx
    rcases hgt hq with ⟨h1, h2, h3⟩ | ⟨rfl, rfl⟩ | ⟨rfl, rfl⟩
    · rw [eq s _ h1 h2] at hx; exact ⟨s, q, h3, hx, rfl, .inl ⟨rfl, rfl⟩, h2⟩
    · simp only at hx; rw [eo, ← hx0] at hx; exact ⟨new, e, he, hx, hek, .inr ⟨rfl, rfl⟩, hne⟩
    · simp only at hx; rw [en] at hx; injection hx with hx; injection hx with hx _; cases hx
  have hm : RepM ρ2 ((mem.set old ⟨.grow, e.ty, b.ver + 1, e.esz, e.cells⟩).set new ⟨.grow, e.ty, e.ver + 1, e.esz, []⟩) w := by
    refine ⟨fun s q hq => ?_, fun s v hs => ?_, fun s q v hq hv => ?_, fun s t q u hq hu hst hqk huk x y i j hx hy => ?_⟩
    · rcases hgt hq with ⟨_, _, h3⟩ | ⟨rfl, rfl⟩ | ⟨rfl, rfl⟩
      · exact (hr.mem.blk s q h3).mono hle
      · exact hblk
      · exact .inl ⟨rfl, en⟩
    · simp only [List.length_set] at hs
      rw [eq s v (by omega) (by omega)]; exact hr.mem.dom s v hs
    · rcases hgt hq with ⟨h1, h2, h3⟩ | ⟨rfl, rfl⟩ | ⟨rfl, rfl⟩
      · rw [eq s v h1 h2]; exact hr.mem.domv s q v h3 hv
      · simp only at hv
        rw [← hρ, Env.set_other _ _ (fun hc => hne hc.1), Env.set_other _ _ (fun hc => by omega)]
        exact hr.mem.domv _ b v hb (by omega)
      · simp only at hv
        rw [← hρ, Env.set_other _ _ (fun hc => by omega), Env.set_other _ _ (fun hc => hne hc.1.symm)]
        exact hr.mem.domv _ e v he (by omega)
    · obtain ⟨s0, q0, g1, g2, g3, g4, g5⟩ := hsrc hq hx
      obtain ⟨t0, u0, f1, f2, f3, f4, f5⟩ := hsrc hu hy
      refine hr.mem.sep s0 t0 q0 u0 g1 f1 ?_ (by rw [g3]; exact hqk) (fun hro => ?_) x y i j g2 f2
      · rcases g4 with ⟨rfl, _⟩ | ⟨rfl, rfl⟩ <;> rcases f4 with ⟨rfl, _⟩ | ⟨rfl, rfl⟩
        · exact hst
        · exact g5
        · exact fun h => f5 h.symm
        · exact absurd rfl hst
      · rcases f4 with ⟨_, rfl⟩ | ⟨_, rfl⟩
        · exact huk hro
        · rw [he] at f1; injection f1 with f1; subst f1; rw [hek] at hro; cases hro
  refine wp_mono (h ρ2 a w (by rw [eo]; exact (hle new e.ver x0 hx0).symm) ⟨hr.size, fun i => ?_, hm⟩) ?_
  · rw [Tm.get_put]
    split
    · rename_i hi
      subst hi
      have h1 := hr.tm i
      rw [hd] at h1
      obtain ⟨A, c0, B, cc, h2, h3, h4, h5, h6⟩ := h1
      exact ⟨A, c0, B, cc, by rw [eo, ← hx0]; exact h2, h3, h4, h5, h6⟩
    · exact (hr.tm i).mono hle
  · rintro ee a' w' ⟨ρ3, tm2, mem2, hr2, hs2, hdd, hq⟩
    refine ⟨ρ3, tm2, mem2, hr2, ?_, hdd, hq⟩
    refine ⟨hs2.os, hs2.tape, hs2.output, hs2.size, by have := hs2.len; simpa using this, fun s hs v x hx => hs2.ext s (by simpa using hs) v x (hle s v x hx), fun s q q' h1 h2 => ?_, fun s q' h1 h2 => ?_, fun n1 hn hn2 => ?_, fun s q' x i h1 h2 h3 => ?_⟩
    · by_cases e1 : s = new
      · subst e1
        rw [he] at h1; injection h1 with h1; subst h1
        rw [hek]; exact hs2.kind s ⟨.grow, e.ty, e.ver + 1, e.esz, []⟩ q' (List.getElem?_set_self (by simpa using hnl)) h2
      · by_cases e2 : s = old
        · subst e2
          rw [hb] at h1; injection h1 with h1; subst h1
          rw [hbk]; exact hs2.kind s ⟨.grow, e.ty, b.ver + 1, e.esz, e.cells⟩ q' (by rw [List.getElem?_set_ne (fun h => e1 h.symm)]; exact List.getElem?_set_self hol) h2
        · exact hs2.kind s q q' (by rw [List.getElem?_set_ne (fun h => e1 h.symm), List.getElem?_set_ne (fun h => e2 h.symm)]; exact h1) h2
    · have := hs2.ro s q' h1 h2
      rcases hgt this with ⟨_, _, h3⟩ | ⟨_, rfl⟩ | ⟨_, rfl⟩
      · exact h3
      · cases h2
      · cases h2
    · refine hs2.frame n1 hn fun s q x i h1 h2 h3 => ?_
      obtain ⟨s0, q0, g1, g2, g3, _, _⟩ := hsrc h1 h3
      exact hn2 s0 q0 x i g1 (by rw [g3]; exact h2) g2
    · rcases hs2.fresh s q' x i h1 h2 h3 with h | ⟨t, q, y, l, g1, g2, g3, g4⟩
      · exact .inl h
      · obtain ⟨s0, q0, f1, f2, f3, _, _⟩ := hsrc g1 g3
        exact .inr ⟨s0, q0, y, l, f1, by rw [f3]; exact g2, f2, g4⟩
theorem AW.move {c : Code} {Q : Exit → Tm → AMem → Prop} (old new d n : Nat) {b e : Blk} (hb : mem[old]? = some b) (hbk : b.kind = .grow) (he : mem[new]? = some e) (hek : e.kind = .grow) (hne : old ≠ new) (hd : Tm.get tm d = .one (.sl new e.ver 0 n))
    (h : AW P nt c ((d, .one (.sl old (b.ver + 1) 0 n)) :: tm) ((mem.set old ⟨.grow, e.ty, b.ver + 1, e.esz, e.cells⟩).set new ⟨.grow, e.ty, e.ver + 1, e.esz, []⟩) Q) : AW P nt c tm mem Q :=
  AW.moveP old new d n hb hbk he hek hne hd fun ρ2 a w _ hr => h ρ2 a w hr
theorem BlkR.recell {ρ : Env} {w : World} {r : Nat} {b : Blk} (hb : BlkR ρ w r b) (hk : b.kind ≠ .ro) {j : Nat} {c0 c : CV} (hj : b.cells[j]? = some c0) (hc : ∀ v, VC ρ c0 v → VC ρ c v) : BlkR ρ w r { b with cells := b.cells.set j c } := by
  obtain ⟨kind, ty, ver, esz, cells⟩ := b
  cases kind with
  | fix =>
    obtain ⟨n, cs, k, h1, h2, h3, hkk⟩ := hb
    obtain ⟨v, hv, hr⟩ := h3.get hj
    exact ⟨n, cs, k, h1, h2, h3.set_left hv (hc v hr), hkk⟩
  | grow =>
    rcases hb with ⟨h1, h2⟩ | ⟨n, cs, cap, xs, sp, h1, h2, h3, hcm, h4, h5⟩
    · simp only at h1; subst h1; simp at hj
    · obtain ⟨v, hv, hr⟩ := h5.get hj
      exact .inr ⟨n, cs, cap, xs, sp, h1, h2, h3, hcm, h4, h5.set_left hv (hc v hr)⟩
  | ro => exact absurd rfl hk
  | map ka va clock es => obtain ⟨n, o, k, _, _, _, h⟩ := hb; simp only at h; subst h; simp at hj
  | iter rm since seen last => obtain ⟨n, N, k, k', _, _, _, h⟩ := hb; simp only at h; subst h; simp at hj
theorem RepM.recell {ρ : Env} {w : World} (h : RepM ρ mem w) {r j : Nat} {b : Blk} {c0 c : CV} (hb : mem[r]? = some b) (hk : b.kind ≠ .ro) (hj : b.cells[j]? = some c0) (hc : ∀ v, VC ρ c0 v → VC ρ c v) :
    RepM ρ (mem.set r { b with cells := b.cells.set j c }) w ∧ Step mem ρ w (mem.set r { b with cells := b.cells.set j c }) ρ w := by
  have hrl := (List.getElem?_eq_some_iff.1 hb).1
  have hold : ∀ {s : Nat} {d : Blk}, (mem.set r { b with cells := b.cells.set j c })[s]? = some d → ∃ d0, mem[s]? = some d0 ∧ d0.kind = d.kind ∧ d0.ver = d.ver ∧ (d.kind = .ro → d0 = d) ∧ BlkR ρ w s d := by
    intro s d hd
    by_cases hs : s = r
    · subst hs; rw [List.getElem?_set_self hrl] at hd; injection hd with hd; subst hd
      exact ⟨b, hb, rfl, rfl, fun h => absurd h hk, (h.blk s b hb).recell hk hj hc⟩
    · rw [List.getElem?_set_ne (fun e => hs e.symm)] at hd
      exact ⟨d, hd, rfl, rfl, fun _ => rfl, h.blk s d hd⟩
  refine ⟨⟨fun s d hd => ?_, fun s v hs => h.dom s v (by simpa using hs), fun s d v hd hv => ?_, fun s t d e hd he hne hkd hke x y i k hx hy => ?_⟩,
    ⟨rfl, rfl, rfl, Nat.le_refl _, by simp, fun _ _ _ _ h => h, fun s d d' h1 h2 => ?_, fun s d h1 h2 => ?_, fun _ _ _ => rfl, fun s d x k h1 h2 h3 => ?_⟩⟩
  · obtain ⟨_, _, _, _, _, h5⟩ := hold hd; exact h5
  · obtain ⟨d0, h1, _, h3, _⟩ := hold hd; exact h.domv s d0 v h1 (by rw [h3]; exact hv)
  · obtain ⟨d0, h1, h2, h3, _⟩ := hold hd
    obtain ⟨e0, f1, f2, f3, f4, _⟩ := hold he
    exact h.sep s t d0 e0 h1 f1 hne (by rw [h2]; exact hkd) (fun hro => by rw [f4 (by rw [← f2]; exact hro)]; exact hke (by rw [← f2]; exact hro)) x y i k (by rw [h3]; exact hx) (by rw [f3]; exact hy)
  · obtain ⟨d0, h3, h4, _⟩ := hold h2; rw [h1] at h3; injection h3 with h3; rw [h3, h4]
  · obtain ⟨d0, h3, _, _, h5, _⟩ := hold h1; rw [← h5 h2]; exact h3
  · obtain ⟨d0, f1, f2, f3, _⟩ := hold h1; exact .inr ⟨s, d0, x, k, f1, by rw [f2]; exact h2, by rw [f3]; exact h3, rfl⟩
/-- The same where a cell of a block of our own leads to the row, too. -/
theorem AW.moveC {c : Code} {Q : Exit → Tm → AMem → Prop} (old new d n rp j : Nat) {b e p : Blk} (hb : mem[old]? = some b) (hbk : b.kind = .grow) (he : mem[new]? = some e) (hek : e.kind = .grow) (hne : old ≠ new) (hd : Tm.get tm d = .one (.sl new e.ver 0 n))
    (hp : mem[rp]? = some p) (hpk : p.kind ≠ .ro) (hpo : rp ≠ old) (hpn : rp ≠ new) (hpj : p.cells[j]? = some (.sl new e.ver 0 n))
    (h : AW P nt c ((d, .one (.sl old (b.ver + 1) 0 n)) :: tm) (((mem.set old ⟨.grow, e.ty, b.ver + 1, e.esz, e.cells⟩).set new ⟨.grow, e.ty, e.ver + 1, e.esz, []⟩).set rp { p with cells := p.cells.set j (.sl old (b.ver + 1) 0 n) }) Q) : AW P nt c tm mem Q :=
  AW.moveP old new d n hb hbk he hek hne hd fun ρ2 a w heq hr => by
    obtain ⟨g1, g2⟩ := hr.mem.recell (r := rp) (j := j) (c := .sl old (b.ver + 1) 0 n) (b := p) (by rw [List.getElem?_set_ne (fun e => hpn e.symm), List.getElem?_set_ne (fun e => hpo e.symm)]; exact hp) hpk hpj (fun v hv => by
      obtain ⟨A, c0, B, cc, h2, h3⟩ := hv
      exact ⟨A, c0, B, cc, by rw [heq]; exact h2, h3⟩)
    refine wp_mono (h ρ2 a w ⟨hr.size, hr.tm, g1⟩) ?_
    rintro ee a' w' ⟨ρ3, tm2, mem2, hr2, hs2, hdd, hq⟩
    exact ⟨ρ3, tm2, mem2, hr2, g2.trans hs2, hdd, hq⟩
theorem AW.moveQ {c : Code} {Q : Exit → Tm → AMem → Prop} (old new : Nat) {b e : Blk} (hb : mem[old]? = some b) (hbk : b.kind = .grow) (he : mem[new]? = some e) (hek : e.kind = .grow) (hne : old ≠ new)
    (h : ∀ ρ2 a w, ρ2 old (b.ver + 1) = ρ2 new e.ver → Rep ρ2 nt tm ((mem.set old ⟨.grow, e.ty, b.ver + 1, e.esz, e.cells⟩).set new ⟨.grow, e.ty, e.ver + 1, e.esz, []⟩) a w →
      c.wp P (fun ex a' w' => ∃ ρ' tm' mem', Rep ρ' nt tm' mem' a' w' ∧ Step ((mem.set old ⟨.grow, e.ty, b.ver + 1, e.esz, e.cells⟩).set new ⟨.grow, e.ty, e.ver + 1, e.esz, []⟩) ρ2 w mem' ρ' w' ∧ a'.defers = a.defers ∧ Q ex tm' mem') a w) : AW P nt c tm mem Q := by
  intro ρ a w hr
  have hol := (List.getElem?_eq_some_iff.1 hb).1
  have hnl := (List.getElem?_eq_some_iff.1 he).1
  obtain ⟨x0, hx0⟩ : ∃ x, ρ new e.ver = some x := by
    have h1 := hr.mem.blk new e he
    unfold BlkR at h1
    rw [hek] at h1
    simp only at h1
    rcases h1 with ⟨_, h2⟩ | ⟨_, _, _, _, _, h2, _⟩
    · exact ⟨_, h2⟩
    · exact ⟨_, h2⟩
  have hle1 : ρ.le (ρ.set old (b.ver + 1) x0) := Env.le_set (hr.mem.domv old b _ hb (by omega))
  have hle2 : (ρ.set old (b.ver + 1) x0).le ((ρ.set old (b.ver + 1) x0).set new (e.ver + 1) (none, 0)) := Env.le_set (by
    rw [Env.set_other ρ _ (fun hc => hne hc.1.symm)]; exact hr.mem.domv new e _ he (by omega))
  have hle : ρ.le ((ρ.set old (b.ver + 1) x0).set new (e.ver + 1) (none, 0)) := fun r v x hx => hle2 r v x (hle1 r v x hx)
  generalize hρ : (ρ.set old (b.ver + 1) x0).set new (e.ver + 1) (none, 0) = ρ2 at *
  have eo : ρ2 old (b.ver + 1) = some x0 := by rw [← hρ, Env.set_other _ _ (fun hc => hne hc.1), Env.set_same]
  have en : ρ2 new (e.ver + 1) = some (none, 0) := by rw [← hρ, Env.set_same]
  have eq : ∀ r v, r ≠ old → r ≠ new → ρ2 r v = ρ r v := fun r v h1 h2 => by rw [← hρ, Env.set_other _ _ (fun hc => h2 hc.1), Env.set_other _ _ (fun hc => h1 hc.1)]
  have hgt : ∀ {s : Nat} {q : Blk}, ((mem.set old ⟨.grow, e.ty, b.ver + 1, e.esz, e.cells⟩).set new ⟨.grow, e.ty, e.ver + 1, e.esz, []⟩)[s]? = some q →
      (s ≠ old ∧ s ≠ new ∧ mem[s]? = some q) ∨ (s = old ∧ q = ⟨.grow, e.ty, b.ver + 1, e.esz, e.cells⟩) ∨ (s = new ∧ q = ⟨.grow, e.ty, e.ver + 1, e.esz, []⟩) := by
    intro s q hq
    by_cases h1 : s = new
    · subst h1; rw [List.getElem?_set_self (by simpa using hnl)] at hq; injection hq with hq; exact .inr (.inr ⟨rfl, hq.symm⟩)
    · rw [List.getElem?_set_ne (fun h => h1 h.symm)] at hq
      by_cases h2 : s = old
      · subst h2; rw [List.getElem?_set_self hol] at hq; injection hq with hq; exact .inr (.inl ⟨rfl, hq.symm⟩)
      · rw [List.getElem?_set_ne (fun h => h2 h.symm)] at hq; exact .inl ⟨h2, h1, hq⟩
  have hblk : BlkR ρ2 w old ⟨.grow, e.ty, b.ver + 1, e.esz, e.cells⟩ := by
    have h1 := hr.mem.blk new e he
    obtain ⟨kind, ty, ver, esz, cells⟩ := e
    simp only at hek; subst hek
    rcases h1 with ⟨q1, q2⟩ | ⟨q, c1, cap, xs, sp, q1, q2, q3, q4, q5, q6⟩
    · refine .inl ⟨q1, ?_⟩
      rw [eo, ← hx0]; exact q2
    · refine .inr ⟨q, c1, cap, xs, sp, ?_, q2, q3, q4, q5, q6.mono fun _ _ => VC.mono hle⟩
      rw [eo, ← hx0]; exact q1
  have hsrc : ∀ {s : Nat} {q : Blk} {x : Addr} {k : Nat}, ((mem.set old ⟨.grow, e.ty, b.ver + 1, e.esz, e.cells⟩).set new ⟨.grow, e.ty, e.ver + 1, e.esz, []⟩)[s]? = some q → ρ2 s q.ver = some (some x, k) →
      ∃ s0 q0, mem[s0]? = some q0 ∧ ρ s0 q0.ver = some (some x, k) ∧ q0.kind = q.kind ∧ (s0 = s ∧ q0 = q ∨ s = old ∧ s0 = new) ∧ s ≠ new := by
    intro s q x k hq hx
    rcases hgt hq with ⟨h1, h2, h3⟩ | ⟨rfl, rfl⟩ | ⟨rfl, rfl⟩
    · rw [eq s _ h1 h2] at hx; exact ⟨s, q, h3, hx, rfl, .inl ⟨rfl, rfl⟩, h2⟩
    · simp only at hx; rw [eo, ← hx0] at hx; exact ⟨new, e, he, hx, hek, .inr ⟨rfl, rfl⟩, hne⟩
    · simp only at hx; rw [en] at hx; injection hx with hx; injection hx with hx _; cases hx
  have hm : RepM ρ2 ((mem.set old ⟨.grow, e.ty, b.ver + 1, e.esz, e.cells⟩).set new ⟨.grow, e.ty, e.ver + 1, e.esz, []⟩) w := by
    refine ⟨fun s q hq => ?_, fun s v hs => ?_, fun s q v hq hv => ?_, fun s t q u hq hu hst hqk huk x y i j hx hy => ?_⟩
    · rcases hgt hq with ⟨_, _, h3⟩ | ⟨rfl, rfl⟩ | ⟨rfl, rfl⟩
      · exact (hr.mem.blk s q h3).mono hle
      · exact hblk
      · exact .inl ⟨rfl, en⟩
    · simp only [List.length_set] at hs
      rw [eq s v (by omega) (by omega)]; exact hr.mem.dom s v hs
    · rcases hgt hq with ⟨h1, h2, h3⟩ | ⟨rfl, rfl⟩ | ⟨rfl, rfl⟩
      · rw [eq s v h1 h2]; exact hr.mem.domv s q v h3 hv
      · simp only at hv
        rw [← hρ, Env.set_other _ _ (fun hc => hne hc.1), Env.set_other _ _ (fun hc => by omega)]
        exact hr.mem.domv _ b v hb (by omega)
      · simp only at hv
        rw [← hρ, Env.set_other _ _ (fun hc => by omega), Env.set_other _ _ (fun hc => hne hc.1.symm)]
        exact hr.mem.domv _ e v he (by omega)
    · obtain ⟨s0, q0, g1, g2, g3, g4, g5⟩ := hsrc hq hx
      obtain ⟨t0, u0, f1, f2, f3, f4, f5⟩ := hsrc hu hy
      refine hr.mem.sep s0 t0 q0 u0 g1 f1 ?_ (by rw [g3]; exact hqk) (fun hro => ?_) x y i j g2 f2
      · rcases g4 with ⟨rfl, _⟩ | ⟨rfl, rfl⟩ <;> rcases f4 with ⟨rfl, _⟩ | ⟨rfl, rfl⟩
        · exact hst
        · exact g5
        · exact fun h => f5 h.symm
        · exact absurd rfl hst
      · rcases f4 with ⟨_, rfl⟩ | ⟨_, rfl⟩
        · exact huk hro
        · rw [he] at f1; injection f1 with f1; subst f1; rw [hek] at hro; cases hro
  refine wp_mono (h ρ2 a w (by rw [eo]; exact (hle new e.ver x0 hx0).symm) ⟨hr.size, fun i => ?_, hm⟩) ?_
  · exact (hr.tm i).mono hle
  · rintro ee a' w' ⟨ρ3, tm2, mem2, hr2, hs2, hdd, hq⟩
    refine ⟨ρ3, tm2, mem2, hr2, ?_, hdd, hq⟩
    refine ⟨hs2.os, hs2.tape, hs2.output, hs2.size, by have := hs2.len; simpa using this, fun s hs v x hx => hs2.ext s (by simpa using hs) v x (hle s v x hx), fun s q q' h1 h2 => ?_, fun s q' h1 h2 => ?_, fun n1 hn hn2 => ?_, fun s q' x i h1 h2 h3 => ?_⟩
    · by_cases e1 : s = new
      · subst e1
        rw [he] at h1; injection h1 with h1; subst h1
        rw [hek]; exact hs2.kind s ⟨.grow, e.ty, e.ver + 1, e.esz, []⟩ q' (List.getElem?_set_self (by simpa using hnl)) h2
      · by_cases e2 : s = old
        · subst e2
          rw [hb] at h1; injection h1 with h1; subst h1
          rw [hbk]; exact hs2.kind s ⟨.grow, e.ty, b.ver + 1, e.esz, e.cells⟩ q' (by rw [List.getElem?_set_ne (fun h => e1 h.symm)]; exact List.getElem?_set_self hol) h2
        · exact hs2.kind s q q' (by rw [List.getElem?_set_ne (fun h => e1 h.symm), List.getElem?_set_ne (fun h => e2 h.symm)]; exact h1) h2
    · have := hs2.ro s q' h1 h2
      rcases hgt this with ⟨_, _, h3⟩ | ⟨_, rfl⟩ | ⟨_, rfl⟩
      · exact h3
      · cases h2
      · cases h2
    · refine hs2.frame n1 hn fun s q x i h1 h2 h3 => ?_
      obtain ⟨s0, q0, g1, g2, g3, _, _⟩ := hsrc h1 h3
      exact hn2 s0 q0 x i g1 (by rw [g3]; exact h2) g2
    · rcases hs2.fresh s q' x i h1 h2 h3 with h | ⟨t, q, y, l, g1, g2, g3, g4⟩
      · exact .inl h
      · obtain ⟨s0, q0, f1, f2, f3, _, _⟩ := hsrc g1 g3
        exact .inr ⟨s0, q0, y, l, f1, by rw [f3]; exact g2, f2, g4⟩
/-- A row of our own takes over what another one holds, to which a cell of a block of our own leads; no temporary is asked. -/
theorem AW.moveCell {c : Code} {Q : Exit → Tm → AMem → Prop} (old new n rp j : Nat) {b e p : Blk} (hb : mem[old]? = some b) (hbk : b.kind = .grow) (he : mem[new]? = some e) (hek : e.kind = .grow) (hne : old ≠ new)
    (hp : mem[rp]? = some p) (hpk : p.kind ≠ .ro) (hpo : rp ≠ old) (hpn : rp ≠ new) (hpj : p.cells[j]? = some (.sl new e.ver 0 n))
    (h : AW P nt c tm (((mem.set old ⟨.grow, e.ty, b.ver + 1, e.esz, e.cells⟩).set new ⟨.grow, e.ty, e.ver + 1, e.esz, []⟩).set rp { p with cells := p.cells.set j (.sl old (b.ver + 1) 0 n) }) Q) : AW P nt c tm mem Q :=
  AW.moveQ old new hb hbk he hek hne fun ρ2 a w heq hr => by
    obtain ⟨g1, g2⟩ := hr.mem.recell (r := rp) (j := j) (c := .sl old (b.ver + 1) 0 n) (b := p) (by rw [List.getElem?_set_ne (fun e => hpn e.symm), List.getElem?_set_ne (fun e => hpo e.symm)]; exact hp) hpk hpj (fun v hv => by
      obtain ⟨A, c0, B, cc, h2, h3⟩ := hv
      exact ⟨A, c0, B, cc, by rw [heq]; exact h2, h3⟩)
    refine wp_mono (h ρ2 a w ⟨hr.size, hr.tm, g1⟩) ?_
    rintro ee a' w' ⟨ρ3, tm2, mem2, hr2, hs2, hdd, hq⟩
    exact ⟨ρ3, tm2, mem2, hr2, g2.trans hs2, hdd, hq⟩
end Go.Eng

set_option linter.unusedSimpArgs false
set_option linter.unusedVariables false
set_option maxRecDepth 100000
set_option maxHeartbeats 4000000
namespace Go.Proofs.Ytcahlnddcjifdaa
open Go Go.Eng

theorem wi {x : Int} (h : -9223372036854775808 ≤ x ∧ x ≤ 9223372036854775807) : IntKind.i64.wrap x = x := by rw [IntKind.wrap_i64]; omega
theorem w32 (x : Int) : IntKind.u32.wrap x = x % 4294967296 := by simp [IntKind.wrap, IntKind.signed, IntKind.bits]
theorem w8 (x : Int) : IntKind.u8.wrap x = x % 256 := by simp [IntKind.wrap, IntKind.signed, IntKind.bits]
/-- Bytes; words; a number's bits. -/
def u8l (bs : List Int) : List CV := bs.map (CV.int .u8)
theorem u8l_len (bs : List Int) : (u8l bs).length = bs.length := by simp [u8l]
theorem u8l_app (a b : List Int) : u8l a ++ u8l b = u8l (a ++ b) := by simp [u8l]
theorem u8l_vals (bs : List Int) : (u8l bs).all CV.isVal = true := by
  simp only [u8l, List.all_map, List.all_eq_true]; intro x _; rfl
theorem u8l_below (L : Nat) (bs : List Int) : (u8l bs).all (CV.below L) = true := by
  simp only [u8l, List.all_map, List.all_eq_true]; intro x _; rfl
def byB (bs : List Int) (i : Nat) : Int := bs.getD i 0
theorem u8l_get {bs : List Int} {i : Nat} (h : i < bs.length) : (u8l bs)[i]? = some (.int .u8 (byB bs i)) := by
  simp only [u8l, List.getElem?_map, byB, List.getD_eq_getElem?_getD, List.getElem?_eq_getElem h]; rfl
theorem u8l_take (bs : List Int) (n : Nat) : (u8l bs).take n = u8l (bs.take n) := by simp [u8l]
theorem u8l_drop (bs : List Int) (n : Nat) : (u8l bs).drop n = u8l (bs.drop n) := by simp [u8l]
def ul (xs : List Int) : List CV := xs.map (CV.int .u32)
theorem ul_len (xs : List Int) : (ul xs).length = xs.length := by simp [ul]
theorem ul_get {xs : List Int} {i : Nat} (h : i < xs.length) : (ul xs)[i]? = some (.int .u32 (xs.getD i 0)) := by
  simp only [ul, List.getElem?_map, List.getD_eq_getElem?_getD, List.getElem?_eq_getElem h]; rfl
theorem ul_set (xs : List Int) (i : Nat) (x : Int) : (ul xs).set i (.int .u32 x) = ul (xs.set i x) := by simp [ul, List.map_set]
theorem ul_vals (xs : List Int) : (ul xs).all CV.isVal = true := by
  simp only [ul, List.all_map, List.all_eq_true]; intro x _; rfl
theorem ul_below (L : Nat) (xs : List Int) : (ul xs).all (CV.below L) = true := by
  simp only [ul, List.all_map, List.all_eq_true]; intro x _; rfl
def R32 (x : Int) : Prop := 0 ≤ x ∧ x ≤ 4294967295
theorem r32w (x : Int) : R32 (IntKind.u32.wrap x) := by unfold R32; rw [w32]; omega
theorem r32b (op : BinOp) (x y : Int) : R32 (bits op .u32 x y) := r32w _
theorem or_comm (x y : Int) : bits .or .u32 x y = bits .or .u32 y x := by unfold bits; simp only; rw [BitVec.or_comm]
theorem ofInt32 {x : Int} (h : R32 x) : (BitVec.ofInt 32 x).toNat = x.toNat := by
  have := h.1; have := h.2
  rw [BitVec.toNat_ofInt]; omega
theorem or_add {x y : Int} (k : Nat) (q : Int) (hx : R32 x) (hy : 0 ≤ y) (e : x = 2 ^ k * q) (hq : 0 ≤ q) (hlt : y < 2 ^ k) (hk : k ≤ 32) : bits .or .u32 x y = x + y := by
  have h2 : (2 : Int) ^ k ≤ 4294967296 := by
    have := Nat.pow_le_pow_right (n := 2) (by omega) hk
    have e2 : ((2 ^ k : Nat) : Int) = (2 : Int) ^ k := by simp
    rw [← e2]; omega
  have hy' : R32 y := ⟨hy, by omega⟩
  have hn : x.toNat ||| y.toNat = x.toNat + y.toNat := by
    have ex : x.toNat = 2 ^ k * q.toNat := by
      have e2 : ((2 ^ k * q.toNat : Nat) : Int) = x := by rw [e]; simp [Int.natCast_mul, Int.toNat_of_nonneg hq]
      omega
    have ylt : y.toNat < 2 ^ k := by
      have e2 : ((2 ^ k : Nat) : Int) = (2 : Int) ^ k := by simp
      omega
    rw [ex, Nat.two_pow_add_eq_or_of_lt ylt]
  have hor : (BitVec.ofInt 32 x ||| BitVec.ofInt 32 y).toNat = x.toNat + y.toNat := by
    rw [BitVec.toNat_or, ofInt32 hx, ofInt32 hy', hn]
  have hlt2 : x.toNat + y.toNat < 2 ^ 32 := by rw [← hor]; exact (BitVec.ofInt 32 x ||| BitVec.ofInt 32 y).isLt
  show IntKind.u32.wrap ((BitVec.ofInt 32 x ||| BitVec.ofInt 32 y).toNat : Int) = x + y
  rw [hor, w32]; have := hx.1; omega
theorem xor_max {e : Int} (h : R32 e) : bits .xor .u32 4294967295 e = 4294967295 - e := by
  have h1 : BitVec.ofInt 32 4294967295 = BitVec.allOnes 32 := by decide
  have h2 : (BitVec.ofInt 32 4294967295 ^^^ BitVec.ofInt 32 e).toNat = 2 ^ 32 - 1 - e.toNat := by
    rw [h1, BitVec.allOnes_xor, BitVec.toNat_not, ofInt32 h]
  show IntKind.u32.wrap ((BitVec.ofInt 32 4294967295 ^^^ BitVec.ofInt 32 e).toNat : Int) = _
  rw [h2, w32]; have := h.1; have := h.2; omega
/-- Turned to the right. -/
def rotR (x : Int) (n : Nat) : Int := bits .or .u32 (x.fdiv (2 ^ n)) (IntKind.u32.wrap (x * 2 ^ (32 - n)))
theorem and31 : ∀ n : Fin 32, 1 ≤ n.val → bits .and .u64 (IntKind.u64.wrap (-(n.val : Int))) 31 = 32 - (n.val : Int) := by decide +kernel
theorem and31' {n : Nat} (h : 1 ≤ n ∧ n ≤ 31) : bits .and .u64 (IntKind.u64.wrap (-(n : Int))) 31 = 32 - (n : Int) := and31 ⟨n, by omega⟩ h.1
def s0 (x : Int) : Int := bits .xor .u32 (bits .xor .u32 (rotR x 7) (rotR x 18)) (x.fdiv 8)
def s1 (x : Int) : Int := bits .xor .u32 (bits .xor .u32 (rotR x 17) (rotR x 19)) (x.fdiv 1024)
def S0 (x : Int) : Int := bits .xor .u32 (bits .xor .u32 (rotR x 2) (rotR x 13)) (rotR x 22)
def S1 (x : Int) : Int := bits .xor .u32 (bits .xor .u32 (rotR x 6) (rotR x 11)) (rotR x 25)
def chF (e f g : Int) : Int := bits .xor .u32 (bits .and .u32 e f) (bits .and .u32 (bits .xor .u32 4294967295 e) g)
def maF (a b c : Int) : Int := bits .xor .u32 (bits .xor .u32 (bits .and .u32 a b) (bits .and .u32 a c)) (bits .and .u32 b c)
def a32 (x y : Int) : Int := IntKind.u32.wrap (x + y)
structure S8 where
  (a b c d e f g h : Int)
def t1F (K W : List Int) (i : Nat) (s : S8) : Int := a32 (a32 (a32 (a32 s.h (S1 s.e)) (chF s.e s.f s.g)) (K.getD i 0)) (W.getD i 0)
def rdF (K W : List Int) (i : Nat) (s : S8) : S8 := ⟨a32 (t1F K W i s) (a32 (S0 s.a) (maF s.a s.b s.c)), s.a, s.b, s.c, a32 s.d (t1F K W i s), s.e, s.f, s.g⟩
def rd (K W : List Int) (s : S8) : Nat → S8
  | 0 => s
  | i + 1 => rdF K W i (rd K W s i)
def wordV (bs : List Int) (o : Nat) : Int := byB bs o * 16777216 + byB bs (o + 1) * 65536 + byB bs (o + 2) * 256 + byB bs (o + 3)
def mixF (w : List Int) (i : Nat) : Int := a32 (a32 (a32 (w.getD (i - 16) 0) (s0 (w.getD (i - 15) 0))) (w.getD (i - 7) 0)) (s1 (w.getD (i - 2) 0))
def sch (bs : List Int) (o : Nat) : Nat → List Int
  | 0 => List.replicate 64 0
  | i + 1 => (sch bs o i).set i (if i < 16 then wordV bs (o + 4 * i) else mixF (sch bs o i) i)
theorem sch_len (bs : List Int) (o : Nat) : ∀ i, (sch bs o i).length = 64
  | 0 => by simp [sch]
  | i + 1 => by simp [sch, sch_len bs o i]
def add8 (s t : S8) : S8 := ⟨a32 s.a t.a, a32 s.b t.b, a32 s.c t.c, a32 s.d t.d, a32 s.e t.e, a32 s.f t.f, a32 s.g t.g, a32 s.h t.h⟩
/-- A block stirred in. -/
def comp (K : List Int) (s : S8) (bs : List Int) (o : Nat) : S8 := add8 s (rd K (sch bs o 64) s 64)
theorem p2_32 {n : Nat} (h : n ≤ 32) : (2 : Int) ^ min n IntKind.u32.bits = 2 ^ n := by rw [show IntKind.u32.bits = 32 from rfl, Nat.min_eq_left h]
-- left out: turn_c
-- left out: rot_c
end Go.Proofs.Ytcahlnddcjifdaa

set_option linter.unusedSimpArgs false
set_option linter.unusedVariables false
set_option maxRecDepth 100000
set_option maxHeartbeats 4000000
namespace Go.Proofs.Ytcahlnddcjifdaa
open Go Go.Eng

/-- A map's entries: when they were made, their key, their bytes. -/
abbrev DE := List (Nat × Int × List Int)
def eC (e : Nat × Int × List Int) : Nat × List CV × List CV := (e.1, [.int .i64 e.2.1], u8l e.2.2)
def eL (E : DE) : List (Nat × List CV × List CV) := E.map eC
def fndE (k : Int) : DE → Option Nat
  | [] => none
  | e :: E => if k = e.2.1 then some 0 else (fndE k E).map (· + 1)
def lkB (k : Int) : DE → Option (Nat × List Int)
  | [] => none
  | e :: E => if k = e.2.1 then some (e.1, e.2.2) else lkB k E
def lkE (k : Int) (E : DE) : Option (List Int) := (lkB k E).map (·.2)
theorem findL_eL (k : Int) : ∀ E : DE, findL [.int .i64 k] (eL E) = some (fndE k E)
  | [] => rfl
  | e :: E => by
    show findL [.int .i64 k] (eC e :: eL E) = _
    unfold findL
    have h : keyEqL [CV.int .i64 k] (eC e).2.1 = some (k == e.2.1) := by simp [eC, keyEqL, ceq]
    rw [h]
    unfold fndE
    by_cases hk : k = e.2.1
    · rw [if_pos hk, beq_iff_eq.2 hk]
    · rw [if_neg hk, beq_eq_false_iff_ne.2 hk, findL_eL k E]; rfl
theorem fndE_none {k : Int} : ∀ {E : DE}, fndE k E = none → lkB k E = none
  | [], _ => rfl
  | e :: E, h => by
    unfold fndE at h; unfold lkB
    by_cases hk : k = e.2.1
    · rw [if_pos hk] at h; cases h
    · rw [if_neg hk] at h ⊢
      exact fndE_none (by simpa using h)
theorem fndE_some {k : Int} : ∀ {E : DE} {j : Nat}, fndE k E = some j → ∃ b v, E[j]? = some (b, k, v) ∧ lkB k E = some (b, v)
  | [], _, h => by cases h
  | e :: E, j, h => by
    unfold fndE at h; unfold lkB
    by_cases hk : k = e.2.1
    · rw [if_pos hk] at h ⊢
      injection h with h; subst h; subst hk
      exact ⟨e.1, e.2.2, rfl, rfl⟩
    · rw [if_neg hk] at h ⊢
      obtain ⟨i, hi, rfl⟩ := Option.map_eq_some_iff.1 h
      obtain ⟨b, v, h1, h2⟩ := fndE_some hi
      exact ⟨b, v, h1, h2⟩
theorem lkE_none {k : Int} {E : DE} (h : fndE k E = none) : lkE k E = none := by unfold lkE; rw [fndE_none h]; rfl
theorem eL_get {E : DE} {j : Nat} {e : Nat × Int × List Int} (h : E[j]? = some e) : (eL E)[j]? = some (eC e) := by unfold eL; rw [List.getElem?_map, h]; rfl
theorem eL_mem {E : DE} {j : Nat} {e : Nat × List CV × List CV} (h : (eL E)[j]? = some e) : ∃ e', E[j]? = some e' ∧ e = eC e' := by
  unfold eL at h; rw [List.getElem?_map] at h
  obtain ⟨e', h1, h2⟩ := Option.map_eq_some_iff.1 h
  exact ⟨e', h1, h2.symm⟩
/-- What is written under a key. -/
def upE (ck : Nat) (k : Int) (v : List Int) : DE → DE
  | [] => [(ck, k, v)]
  | e :: E => if k = e.2.1 then (e.1, k, v) :: E else e :: upE ck k v E
def upC (ck : Nat) (k : Int) (E : DE) : Nat := if (fndE k E).isSome then ck else ck + 1
theorem upE_none {ck : Nat} {k : Int} {v : List Int} : ∀ {E : DE}, fndE k E = none → eL E ++ [(ck, [.int .i64 k], u8l v)] = eL (upE ck k v E)
  | [], _ => rfl
  | e :: E, h => by
    unfold fndE at h; unfold upE
    by_cases hk : k = e.2.1
    · rw [if_pos hk] at h; cases h
    · rw [if_neg hk] at h ⊢
      show eC e :: (eL E ++ _) = eC e :: eL _
      rw [upE_none (by simpa using h)]
theorem upE_some {ck : Nat} {k : Int} {v : List Int} : ∀ {E : DE} {j b : Nat} {w : List Int}, fndE k E = some j → E[j]? = some (b, k, w) → (eL E).set j (b, [.int .i64 k], u8l v) = eL (upE ck k v E)
  | [], _, _, _, h, _ => by cases h
  | e :: E, j, b, w, h, hj => by
    unfold fndE at h; unfold upE
    by_cases hk : k = e.2.1
    · rw [if_pos hk] at h ⊢
      injection h with h; subst h
      injection hj with hj; subst hj
      rfl
    · rw [if_neg hk] at h ⊢
      obtain ⟨i, hi, rfl⟩ := Option.map_eq_some_iff.1 h
      show eC e :: (eL E).set i _ = eC e :: eL _
      rw [upE_some hi (by simpa using hj)]
theorem lkB_up {ck : Nat} {k : Int} {v : List Int} (x : Int) : ∀ E : DE, lkE x (upE ck k v E) = if x = k then some v else lkE x E
  | [] => by
    unfold upE lkE lkB lkB
    by_cases h : x = k <;> simp [h]
  | e :: E => by
    have ih := lkB_up (ck := ck) (k := k) (v := v) x E
    unfold lkE at ih ⊢
    unfold upE
    by_cases hk : k = e.2.1
    · rw [if_pos hk]
      unfold lkB
      by_cases hx : x = k
      · subst hx; rw [if_pos rfl, if_pos rfl]; rfl
      · rw [if_neg hx, if_neg hx, if_neg (by rw [← hk]; exact hx)]
    · rw [if_neg hk]
      unfold lkB
      by_cases hx : x = e.2.1
      · subst hx
        rw [if_pos rfl, if_neg (fun h => hk h.symm), if_pos rfl]
      · rw [if_neg hx, if_neg hx, ih]
/-- The map is as a device's is: keys of the device's, blocks of 128, each key once. -/
structure WfE (n ck : Nat) (E : DE) : Prop where
  key : ∀ e, e ∈ E → 0 ≤ e.2.1 ∧ e.2.1 < (n : Int)
  len : ∀ e, e ∈ E → e.2.2.length = 128
  old : ∀ e, e ∈ E → e.1 < ck
  borns : (E.map (·.1)).Nodup
  keys : (E.map (·.2.1)).Nodup
theorem WfE.nil (n ck : Nat) : WfE n ck [] := ⟨fun e h => (by cases h), fun e h => (by cases h), fun e h => (by cases h), List.nodup_nil, List.nodup_nil⟩
theorem fndE_mem {k : Int} : ∀ {E : DE}, fndE k E = none → ∀ e, e ∈ E → e.2.1 ≠ k
  | e :: E, h, x, hx => by
    unfold fndE at h
    by_cases hk : k = e.2.1
    · rw [if_pos hk] at h; cases h
    · rw [if_neg hk] at h
      rcases List.mem_cons.1 hx with rfl | hx
      · exact fun h => hk h.symm
      · exact fndE_mem (by simpa using h) x hx
theorem upE_new {ck : Nat} {k : Int} {v : List Int} : ∀ {E : DE}, fndE k E = none → upE ck k v E = E ++ [(ck, k, v)]
  | [], _ => rfl
  | e :: E, h => by
    unfold fndE at h; unfold upE
    by_cases hk : k = e.2.1
    · rw [if_pos hk] at h; cases h
    · rw [if_neg hk] at h ⊢
      rw [upE_new (by simpa using h)]; rfl
theorem upE_mem {ck : Nat} {k : Int} {v : List Int} : ∀ {E : DE} {x}, x ∈ upE ck k v E → x ∈ E ∨ (x.2.1 = k ∧ x.2.2 = v ∧ (x.1 = ck ∨ ∃ e, e ∈ E ∧ e.1 = x.1))
  | [], x, h => by
    unfold upE at h
    obtain rfl := List.mem_singleton.1 h
    exact .inr ⟨rfl, rfl, .inl rfl⟩
  | e :: E, x, h => by
    unfold upE at h
    by_cases hk : k = e.2.1
    · rw [if_pos hk] at h
      rcases List.mem_cons.1 h with rfl | h
      · exact .inr ⟨rfl, rfl, .inr ⟨e, by simp, rfl⟩⟩
      · exact .inl (List.mem_cons_of_mem _ h)
    · rw [if_neg hk] at h
      rcases List.mem_cons.1 h with rfl | h
      · exact .inl (by simp)
      · rcases upE_mem h with h | ⟨h1, h2, h3 | ⟨y, hy, h3⟩⟩
        · exact .inl (List.mem_cons_of_mem _ h)
        · exact .inr ⟨h1, h2, .inl h3⟩
        · exact .inr ⟨h1, h2, .inr ⟨y, List.mem_cons_of_mem _ hy, h3⟩⟩
theorem upE_borns {ck : Nat} {k : Int} {v : List Int} : ∀ {E : DE} {j}, fndE k E = some j → (upE ck k v E).map (·.1) = E.map (·.1) ∧ (upE ck k v E).map (·.2.1) = E.map (·.2.1)
  | [], _, h => by cases h
  | e :: E, j, h => by
    unfold fndE at h; unfold upE
    by_cases hk : k = e.2.1
    · rw [if_pos hk]; subst hk; exact ⟨rfl, rfl⟩
    · rw [if_neg hk] at h ⊢
      obtain ⟨i, hi, rfl⟩ := Option.map_eq_some_iff.1 h
      have := upE_borns (ck := ck) (v := v) hi
      exact ⟨by rw [List.map_cons, List.map_cons, this.1], by rw [List.map_cons, List.map_cons, this.2]⟩
theorem WfE.up {n ck : Nat} {E : DE} (h : WfE n ck E) {k : Int} {v : List Int} (h0 : 0 ≤ k) (hn : k < (n : Int)) (hv : v.length = 128) : WfE n (upC ck k E) (upE ck k v E) := by
  have hle : ck ≤ upC ck k E := by unfold upC; split <;> omega
  refine ⟨fun e he => ?_, fun e he => ?_, fun e he => ?_, ?_, ?_⟩
  · rcases upE_mem he with h1 | ⟨h1, _, _⟩
    · exact h.key e h1
    · rw [h1]; exact ⟨h0, hn⟩
  · rcases upE_mem he with h1 | ⟨_, h1, _⟩
    · exact h.len e h1
    · rw [h1]; exact hv
  · cases hf : fndE k E with
    | none =>
      have e1 : upC ck k E = ck + 1 := by unfold upC; rw [hf]; rfl
      rcases upE_mem he with h1 | ⟨_, _, h1 | ⟨y, hy, h1⟩⟩
      · have := h.old e h1; omega
      · omega
      · have := h.old y hy; omega
    | some j =>
      have := upE_borns (ck := ck) (v := v) hf
      have hm : e.1 ∈ E.map (·.1) := by rw [← this.1]; exact List.mem_map_of_mem he
      obtain ⟨y, hy, h1⟩ := List.mem_map.1 hm
      have := h.old y hy
      omega
  · cases hf : fndE k E with
    | none =>
      rw [upE_new hf, List.map_append]
      refine List.nodup_append.2 ⟨h.borns, by simp, fun a ha b hb => ?_⟩
      obtain ⟨y, hy, rfl⟩ := List.mem_map.1 ha
      simp at hb; subst hb
      have := h.old y hy; omega
    | some j => rw [(upE_borns hf).1]; exact h.borns
  · cases hf : fndE k E with
    | none =>
      rw [upE_new hf, List.map_append]
      refine List.nodup_append.2 ⟨h.keys, by simp, fun a ha b hb => ?_⟩
      obtain ⟨y, hy, rfl⟩ := List.mem_map.1 ha
      simp at hb; subst hb
      exact fndE_mem hf y hy
    | some j => rw [(upE_borns hf).2]; exact h.keys
theorem lkB_mem {k : Int} : ∀ {E : DE} {b v}, lkB k E = some (b, v) → (b, k, v) ∈ E
  | e :: E, b, v, h => by
    unfold lkB at h
    by_cases hk : k = e.2.1
    · rw [if_pos hk] at h; subst hk
      injection h with h; injection h with h1 h2; subst h1; subst h2
      exact List.mem_cons_self
    · rw [if_neg hk] at h
      exact List.mem_cons_of_mem _ (lkB_mem h)
theorem lkB_at {E : DE} : (E.map (·.2.1)).Nodup → ∀ {b k v}, (b, k, v) ∈ E → lkB k E = some (b, v) := by
  induction E with
  | nil => intro _ b k v h; cases h
  | cons e E ih =>
    intro hn b k v h
    rw [List.map_cons, List.nodup_cons] at hn
    unfold lkB
    rcases List.mem_cons.1 h with rfl | h
    · rw [if_pos rfl]
    · rw [if_neg (fun e1 => hn.1 (by rw [← e1]; exact List.mem_map_of_mem (f := (·.2.1)) h))]
      exact ih hn.2 h
/-- Blocks side by side. -/
def catB : Nat → (Nat → List Int) → List Int
  | 0, _ => []
  | n + 1, f => catB n f ++ f n
def L128 (f : Nat → List Int) : Prop := ∀ k, (f k).length = 128
theorem catB_len {f : Nat → List Int} (h : L128 f) : ∀ n, (catB n f).length = n * 128
  | 0 => rfl
  | n + 1 => by simp only [catB, List.length_append, catB_len h n, h n]; omega
theorem catB_congr {f g : Nat → List Int} : ∀ {n : Nat}, (∀ k, k < n → f k = g k) → catB n f = catB n g
  | 0, _ => rfl
  | n + 1, h => by simp only [catB]; rw [catB_congr fun k hk => h k (by omega), h n (by omega)]
theorem catB_split {f : Nat → List Int} (h : L128 f) : ∀ {n k : Nat}, k < n → ∃ B, catB n f = catB k f ++ (f k ++ B) ∧ ∀ v : List Int, catB n (fun i => if i = k then v else f i) = catB k f ++ (v ++ B)
  | n + 1, k, hk => by
    rcases Nat.lt_or_ge k n with h1 | h1
    · obtain ⟨B, h2, h3⟩ := catB_split h h1
      refine ⟨B ++ f n, by simp only [catB, h2, List.append_assoc], fun v => ?_⟩
      simp only [catB, h3 v, List.append_assoc, if_neg (show ¬ n = k by omega)]
    · have e : k = n := by omega
      subst e
      refine ⟨[], by simp [catB], fun v => ?_⟩
      simp only [catB, List.append_nil, if_true]
      rw [catB_congr (g := f) fun i hi => if_neg (by omega)]
def updS (f : Nat → List Int) (k : Nat) (v : List Int) : Nat → List Int := fun i => if i = k then v else f i
theorem updS_len {f : Nat → List Int} (h : L128 f) {k : Nat} {v : List Int} (hv : v.length = 128) : L128 (updS f k v) := fun i => by
  unfold updS; split
  · exact hv
  · exact h i
theorem catB_at {f : Nat → List Int} (h : L128 f) {n k : Nat} (hk : k < n) : ((u8l (catB n f)).drop (k * 128)).take 128 = u8l (f k) := by
  obtain ⟨B, h2, _⟩ := catB_split h hk
  rw [u8l_drop, u8l_take, h2, List.drop_left' (catB_len h k), List.take_left' (h k)]
theorem setL_pre {α : Type} : ∀ (vs l tl : List α), l.length = vs.length → setL (l ++ tl) 0 vs = vs ++ tl := by
  intro vs
  induction vs with
  | nil => intro l tl h; cases l with | nil => rfl | cons a l => simp at h
  | cons v vs ih =>
    intro l tl h
    cases l with
    | nil => simp at h
    | cons a l =>
      have shift : ∀ (vs l : List α) (x : α) (i : Nat), setL (x :: l) (i + 1) vs = x :: setL l i vs := by
        intro vs
        induction vs with
        | nil => intro l x i; rfl
        | cons v vs ih => intro l x i; simp only [setL, List.set_cons_succ]; rw [ih]
      simp only [List.cons_append, setL, List.set_cons_zero]
      rw [shift, ih l tl (by simpa using h)]
theorem setL_mid {α : Type} (vs l tl : List α) (hl : l.length = vs.length) : ∀ (pre : List α), setL (pre ++ (l ++ tl)) pre.length vs = pre ++ (vs ++ tl) := by
  have shift : ∀ (vs l : List α) (x : α) (i : Nat), setL (x :: l) (i + 1) vs = x :: setL l i vs := by
    intro vs
    induction vs with
    | nil => intro l x i; rfl
    | cons v vs ih => intro l x i; simp only [setL, List.set_cons_succ]; rw [ih]
  intro pre
  induction pre with
  | nil => exact setL_pre vs l tl hl
  | cons a pre ih => rw [List.cons_append, List.length_cons, shift, ih]; rfl
theorem catB_set {f : Nat → List Int} (h : L128 f) {n k : Nat} (hk : k < n) {v : List Int} (hv : v.length = 128) : setL (u8l (catB n f)) (k * 128) (u8l v) = u8l (catB n (updS f k v)) := by
  obtain ⟨B, h2, h3⟩ := catB_split h hk
  have h4 := setL_mid (u8l v) (u8l (f k)) (u8l B) (by rw [u8l_len, u8l_len, hv, h k]) (u8l (catB k f))
  rw [u8l_len, catB_len h k] at h4
  rw [h2, ← u8l_app, ← u8l_app, h4, u8l_app, u8l_app]
  unfold updS
  rw [h3 v]
theorem setL_all {α : Type} {vs l : List α} (h : l.length = vs.length) : setL l 0 vs = vs := by
  have := setL_pre vs l [] h
  simpa using this
/-- A device: its steps, its fuse, whether it is down, what lasts, the map's clock, what is loose. -/
structure DS where
  (steps fuse : Int) (down : Bool) (S : Nat → List Int) (ck : Nat) (E : DE)
structure WfD (n : Nat) (D : DS) : Prop where
  s : L128 D.S
  e : WfE n D.ck D.E
/-- What is seen: the loose over what lasts. -/
def vis (S : Nat → List Int) (E : DE) : Nat → List Int := fun k => (lkE (k : Int) E).getD (S k)
theorem vis_len {n ck : Nat} {S : Nat → List Int} {E : DE} (hs : L128 S) (he : WfE n ck E) : L128 (vis S E) := fun k => by
  unfold vis lkE
  cases h : lkB (k : Int) E with
  | none => exact hs k
  | some x => exact he.len _ (lkB_mem (b := x.1) (v := x.2) h)
theorem vis_nil (S : Nat → List Int) : vis S [] = S := rfl
theorem vis_up (S : Nat → List Int) (E : DE) (ck : Nat) {k : Nat} {v : List Int} : vis S (upE ck (k : Int) v E) = updS (vis S E) k v := by
  funext i
  unfold vis updS
  rw [lkB_up]
  by_cases h : i = k
  · subst h; rw [if_pos rfl, if_pos rfl]; rfl
  · rw [if_neg (by omega), if_neg h]
/-- The loose of which some were put down. -/
def mixS (S : Nat → List Int) (E : DE) (seen : List Nat) : Nat → List Int := fun k => match lkB (k : Int) E with
  | some (b, v) => if b ∈ seen then v else S k
  | none => S k
theorem mix_nil (S : Nat → List Int) (E : DE) : mixS S E [] = S := by
  funext k; unfold mixS
  cases lkB (k : Int) E with
  | none => rfl
  | some x => simp
theorem mix_all {S : Nat → List Int} {E : DE} {seen : List Nat} (h : ∀ e, e ∈ E → e.1 ∈ seen) : mixS S E seen = vis S E := by
  funext k; unfold mixS vis lkE
  cases hk : lkB (k : Int) E with
  | none => rfl
  | some x =>
    obtain ⟨b, v⟩ := x
    simp only [Option.map_some, Option.getD_some]
    rw [if_pos (h _ (lkB_mem hk))]
theorem mix_len {n ck : Nat} {S : Nat → List Int} {E : DE} (hs : L128 S) (he : WfE n ck E) (seen : List Nat) : L128 (mixS S E seen) := fun k => by
  unfold mixS
  cases h : lkB (k : Int) E with
  | none => exact hs k
  | some x =>
    obtain ⟨b, v⟩ := x
    simp only
    split
    · exact he.len _ (lkB_mem h)
    · exact hs k
theorem mix_add {n ck : Nat} {S : Nat → List Int} {E : DE} (he : WfE n ck E) {seen : List Nat} {b : Nat} {x : Nat} {v : List Int} (hm : (b, (x : Int), v) ∈ E) : mixS S E (seen ++ [b]) = updS (mixS S E seen) x v := by
  funext k
  show _ = if k = x then v else mixS S E seen k
  unfold mixS
  by_cases hk : k = x
  · subst hk
    rw [if_pos rfl, lkB_at he.keys hm]; simp
  · rw [if_neg hk]
    cases h : lkB (k : Int) E with
    | none => rfl
    | some y =>
      obtain ⟨b', v'⟩ := y
      have hm' := lkB_mem h
      have hne : b' ≠ b := fun e1 => by
        subst e1
        have key : ∀ (l : DE), (l.map (·.1)).Nodup → ∀ a c : Nat × Int × List Int, a ∈ l → c ∈ l → a.1 = c.1 → a = c := by
          intro l
          induction l with
          | nil => intro _ a c ha; cases ha
          | cons y l ih =>
            intro hn a c ha hc e
            rw [List.map_cons, List.nodup_cons] at hn
            rcases List.mem_cons.1 ha with h1 | h1 <;> rcases List.mem_cons.1 hc with h2 | h2
            · rw [h1, h2]
            · exact (hn.1 (by rw [← h1, e]; exact List.mem_map_of_mem (f := (·.1)) h2)).elim
            · exact (hn.1 (by rw [← h2, ← e]; exact List.mem_map_of_mem (f := (·.1)) h1)).elim
            · exact ih hn.2 a c h1 h2 e
        have := key E he.borns _ _ hm hm' rfl
        simp only [Prod.mk.injEq, true_and] at this
        omega
      simp [hne]
/-- What a crash leaves. -/
def crF (S : Nat → List Int) (E : DE) (ks : Nat → Int) : Nat → Nat → List Int
  | 0 => S
  | i + 1 => (match lkE (ks i) E with | some v => updS (crF S E ks i) (ks i).toNat v | none => crF S E ks i)
theorem crF_len {n ck : Nat} {S : Nat → List Int} {E : DE} (hs : L128 S) (he : WfE n ck E) (ks : Nat → Int) : ∀ i, L128 (crF S E ks i)
  | 0 => hs
  | i + 1 => by
    unfold crF
    have ih := crF_len hs he ks i
    cases h : lkE (ks i) E with
    | none => exact ih
    | some v =>
      unfold lkE at h
      obtain ⟨x, hx, rfl⟩ := Option.map_eq_some_iff.1 h
      exact updS_len ih (he.len _ (lkB_mem (b := x.1) (v := x.2) hx))
theorem crF_or {n ck : Nat} {S : Nat → List Int} {E : DE} (he : WfE n ck E) (ks : Nat → Int) (k : Nat) : ∀ i, crF S E ks i k = S k ∨ crF S E ks i k = vis S E k
  | 0 => .inl rfl
  | i + 1 => by
    have ih := crF_or (S := S) he ks k i
    unfold crF
    cases h : lkE (ks i) E with
    | none => exact ih
    | some v =>
      simp only
      unfold updS
      by_cases hk : k = (ks i).toNat
      · rw [if_pos hk]
        refine .inr ?_
        have h0 : 0 ≤ ks i := by
          unfold lkE at h
          obtain ⟨x, hx, _⟩ := Option.map_eq_some_iff.1 h
          exact (he.key _ (lkB_mem (b := x.1) (v := x.2) hx)).1
        have e : (k : Int) = ks i := by omega
        unfold vis
        rw [e, h]; rfl
      · rw [if_neg hk]; exact ih
end Go.Proofs.Ytcahlnddcjifdaa

set_option linter.unusedSimpArgs false
set_option linter.unusedVariables false
set_option maxRecDepth 100000
set_option maxHeartbeats 4000000
namespace Go.Proofs.Ytcahlnddcjifdaa
open Go Go.Eng

theorem mk_lk {m l : AMem} (h : l.length = m.length) (L : AMem) (k : Nat) : (l ++ L)[m.length + k]? = L[k]? := by rw [← h]; exact lk_app l L k
theorem mk_lk0 {m l : AMem} (h : l.length = m.length) (L : AMem) : (l ++ L)[m.length]? = L[0]? := by rw [← h]; exact lk_app0 l L
theorem mk_set {m l : AMem} (h : l.length = m.length) (L : AMem) (k : Nat) (b : Blk) : (l ++ L).set (m.length + k) b = l ++ L.set k b := by rw [← h]; exact set_app l L k b
theorem mk_set0 {m l : AMem} (h : l.length = m.length) (L : AMem) (b : Blk) : (l ++ L).set m.length b = l ++ L.set 0 b := by rw [← h]; exact set_app0 l L b
theorem mk_old {m l : AMem} {r : Nat} (h : l.length = m.length) (hr : r < m.length) (L : AMem) : (l ++ L)[r]? = l[r]? := List.getElem?_append_left (by rw [h]; exact hr)
theorem mk_olds {m l : AMem} {r : Nat} (h : l.length = m.length) (hr : r < m.length) (L : AMem) (b : Blk) : (l ++ L).set r b = l.set r b ++ L := List.set_append_left _ _ (by rw [h]; exact hr)
theorem mk_self {m l : AMem} {r : Nat} (h : l.length = m.length) (hr : r < m.length) (b : Blk) : (l.set r b)[r]? = some b := List.getElem?_set_self (by rw [h]; exact hr)
def drB (rs rm n : Nat) (D : DS) : Blk := ⟨.fix, 57, 0, 0, [.int .i64 D.steps, .int .i64 D.fuse, .bool D.down, .sl rs 0 0 n, .mp rm 0]⟩
def rowD (n : Nat) (D : DS) : Blk := ⟨.grow, 29, 0, 128, u8l (catB n D.S)⟩
def mapD (D : DS) : Blk := ⟨.map false true D.ck (eL D.E), 55, 0, 0, []⟩
structure HasD (m : AMem) (rd rs rm n : Nat) (D : DS) : Prop where
  d : m[rd]? = some (drB rs rm n D)
  r : m[rs]? = some (rowD n D)
  m : m[rm]? = some (mapD D)
theorem HasD.dr {m : AMem} {rd rs rm n : Nat} {D : DS} (h : HasD m rd rs rm n D) : rd ≠ rs := fun e => by
  have h1 := h.d; rw [e, h.r] at h1; simp [drB, rowD] at h1
theorem HasD.dm {m : AMem} {rd rs rm n : Nat} {D : DS} (h : HasD m rd rs rm n D) : rd ≠ rm := fun e => by
  have h1 := h.d; rw [e, h.m] at h1; simp [drB, mapD] at h1
theorem HasD.rm {m : AMem} {rd rs rm n : Nat} {D : DS} (h : HasD m rd rs rm n D) : rs ≠ rm := fun e => by
  have h1 := h.r; rw [e, h.m] at h1; simp [rowD, mapD] at h1
theorem HasD.mono {m : AMem} {rd rs rm n : Nat} {D : DS} (h : HasD m rd rs rm n D) (x : AMem) : HasD (m ++ x) rd rs rm n D := ⟨lk_old h.d x, lk_old h.r x, lk_old h.m x⟩
/-- The device turned. -/
def setD (m : AMem) (rd rs rm n : Nat) (D : DS) : AMem := ((m.set rd (drB rs rm n D)).set rs (rowD n D)).set rm (mapD D)
theorem setD_len (m : AMem) (rd rs rm n : Nat) (D : DS) : (setD m rd rs rm n D).length = m.length := by simp [setD]
theorem HasD.set {m : AMem} {rd rs rm n : Nat} {D : DS} (h : HasD m rd rs rm n D) (D' : DS) : HasD (setD m rd rs rm n D') rd rs rm n D' := by
  have ld := get_lt h.d
  have lr := get_lt h.r
  have lm := get_lt h.m
  refine ⟨?_, ?_, ?_⟩
  · unfold setD
    rw [List.getElem?_set_ne h.dm.symm, List.getElem?_set_ne h.dr.symm, List.getElem?_set_self ld]
  · unfold setD
    rw [List.getElem?_set_ne h.rm.symm, List.getElem?_set_self (by simpa using lr)]
  · unfold setD
    rw [List.getElem?_set_self (by simpa using lm)]
theorem HasD.same {m : AMem} {rd rs rm n : Nat} {D : DS} (h : HasD m rd rs rm n D) : setD m rd rs rm n D = m := by
  unfold setD; rw [set_self h.d, set_self h.r, set_self h.m]
theorem setD_twice {m : AMem} {rd rs rm n : Nat} {D : DS} (h : HasD m rd rs rm n D) (D1 D2 : DS) : setD (setD m rd rs rm n D1) rd rs rm n D2 = setD m rd rs rm n D2 := by
  unfold setD
  rw [List.set_comm _ _ h.dm.symm, List.set_comm _ _ h.dr.symm, List.set_set, List.set_comm _ _ h.rm.symm, List.set_set, List.set_set]
theorem setD_app {m : AMem} {rd rs rm n : Nat} {D : DS} (h : HasD m rd rs rm n D) (D' : DS) (x : AMem) : setD (m ++ x) rd rs rm n D' = setD m rd rs rm n D' ++ x := by
  unfold setD
  rw [List.set_append_left _ _ (get_lt h.d), List.set_append_left _ _ (by simpa using get_lt h.r), List.set_append_left _ _ (by simpa using get_lt h.m)]
theorem setD_other {m : AMem} {rd rs rm n : Nat} {D : DS} {r : Nat} {b : Blk} (hb : m[r]? = some b) (h1 : r ≠ rd) (h2 : r ≠ rs) (h3 : r ≠ rm) : (setD m rd rs rm n D)[r]? = some b := by
  unfold setD
  rw [List.getElem?_set_ne h3.symm, List.getElem?_set_ne h2.symm, List.getElem?_set_ne h1.symm]; exact hb
theorem MWf_setB {L : Nat} {m : AMem} {r : Nat} {b : Blk} (h : MWf L m) (hb : b.cells.all (CV.below L) = true) (hk : b.kind.below L = true) : MWf L (m.set r b) := fun x hx => by
  rcases List.mem_or_eq_of_mem_set hx with h1 | rfl
  · exact h x h1
  · exact blk_below hk hb
theorem eL_below (L ck : Nat) (E : DE) : BK.below L (.map false true ck (eL E)) = true := by
  simp only [BK.below, eL, List.all_map, List.all_eq_true]
  intro e _
  simp only [Function.comp, eC, u8l_below, List.all_cons, List.all_nil, CV.below, Bool.and_self]
theorem setD_wf {m : AMem} {L rd rs rm n : Nat} (hw : MWf L m) (hr : rs < L) (hm : rm < L) (D' : DS) : MWf L (setD m rd rs rm n D') := by
  refine MWf_setB (MWf_setB (MWf_setB hw ?_ rfl) (u8l_below _ _) rfl) rfl (eL_below _ _ _)
  simp only [drB, List.all_cons, List.all_nil, CV.below, decide_eq_true hr, decide_eq_true hm, Bool.and_true]
/-- One step. -/
def spD (D : DS) : DS := if D.fuse = 0 then { D with down := true } else { D with fuse := if 0 < D.fuse then IntKind.i64.wrap (D.fuse - 1) else D.fuse, steps := IntKind.i64.wrap (D.steps + 1) }
def upZ (D : DS) : Int := if D.down then 5 else 0
def inZ (n : Nat) (D : DS) (x : Int) : Int := if D.down then 5 else if x < 0 ∨ (n : Int) ≤ x then 1 else 0
end Go.Proofs.Ytcahlnddcjifdaa

set_option linter.unusedSimpArgs false
set_option linter.unusedVariables false
set_option maxRecDepth 100000
set_option maxHeartbeats 4000000
namespace Go.Proofs.Ytcahlnddcjifdaa
open Go Go.Eng

def zB : List Int := List.replicate 128 0
def D0 : DS := ⟨0, -1, false, fun _ => zB, 0, []⟩
def zV : Value := .agg #[.int .u8 0, .int .u8 0, .int .u8 0, .int .u8 0, .int .u8 0, .int .u8 0, .int .u8 0, .int .u8 0, .int .u8 0, .int .u8 0, .int .u8 0, .int .u8 0, .int .u8 0, .int .u8 0, .int .u8 0, .int .u8 0, .int .u8 0, .int .u8 0, .int .u8 0, .int .u8 0, .int .u8 0, .int .u8 0, .int .u8 0, .int .u8 0, .int .u8 0, .int .u8 0, .int .u8 0, .int .u8 0, .int .u8 0, .int .u8 0, .int .u8 0, .int .u8 0, .int .u8 0, .int .u8 0, .int .u8 0, .int .u8 0, .int .u8 0, .int .u8 0, .int .u8 0, .int .u8 0, .int .u8 0, .int .u8 0, .int .u8 0, .int .u8 0, .int .u8 0, .int .u8 0, .int .u8 0, .int .u8 0, .int .u8 0, .int .u8 0, .int .u8 0, .int .u8 0, .int .u8 0, .int .u8 0, .int .u8 0, .int .u8 0, .int .u8 0, .int .u8 0, .int .u8 0, .int .u8 0, .int .u8 0, .int .u8 0, .int .u8 0, .int .u8 0, .int .u8 0, .int .u8 0, .int .u8 0, .int .u8 0, .int .u8 0, .int .u8 0, .int .u8 0, .int .u8 0, .int .u8 0, .int .u8 0, .int .u8 0, .int .u8 0, .int .u8 0, .int .u8 0, .int .u8 0, .int .u8 0, .int .u8 0, .int .u8 0, .int .u8 0, .int .u8 0, .int .u8 0, .int .u8 0, .int .u8 0, .int .u8 0, .int .u8 0, .int .u8 0, .int .u8 0, .int .u8 0, .int .u8 0, .int .u8 0, .int .u8 0, .int .u8 0, .int .u8 0, .int .u8 0, .int .u8 0, .int .u8 0, .int .u8 0, .int .u8 0, .int .u8 0, .int .u8 0, .int .u8 0, .int .u8 0, .int .u8 0, .int .u8 0, .int .u8 0, .int .u8 0, .int .u8 0, .int .u8 0, .int .u8 0, .int .u8 0, .int .u8 0, .int .u8 0, .int .u8 0, .int .u8 0, .int .u8 0, .int .u8 0, .int .u8 0, .int .u8 0, .int .u8 0, .int .u8 0, .int .u8 0, .int .u8 0, .int .u8 0, .int .u8 0]
theorem zV_cells : zV.cells = Array.replicate 128 (.int .u8 0) := by unfold zV Value.cells; rfl
theorem catB_z : ∀ n, catB n (fun _ => zB) = List.replicate (n * 128) 0
  | 0 => rfl
  | n + 1 => by
    simp only [catB, catB_z n]
    show List.replicate (n * 128) 0 ++ List.replicate 128 0 = _
    rw [List.replicate_append_replicate]; congr 1; omega
theorem zeros_row (n : Nat) : zeros zV (n * 128) = u8l (catB n fun _ => zB) := by
  rw [catB_z]
  unfold zeros
  rw [zV_cells]
  refine List.ext_getElem? fun i => ?_
  simp only [u8l, List.map_replicate, List.getElem?_map, List.getElem?_replicate, Array.size_replicate]
  by_cases h : i < n * 128
  · rw [List.getElem?_range h, if_pos h]
    simp only [Option.map_some]
    have hk : i % 128 < 128 := Nat.mod_lt _ (by decide)
    rw [getElem!_pos (Array.replicate 128 (Value.int .u8 0)) (i % 128) (by simpa using hk), Array.getElem_replicate]
    rfl
  · rw [List.getElem?_eq_none (by simp; omega), if_neg h]; rfl
theorem d0_wf (n : Nat) : WfD n D0 := ⟨fun _ => rfl, WfE.nil n 0⟩
theorem new_lo (x : Int) (m : AMem) (h : x < 1) : Ctr Try.prog 6 [.one (.int .i64 x)] m (.tup [(false, [.nilp]), (false, [.int .i64 1])]) m := by
  refine Ctr.enter Try.func6 rfl (by decide) (rs := [.tmp 2, .tmp 3]) (nt := 16) rfl rfl fun hwf Q hQ => ?_
  refine AW.seq_k fun K hK => ?_
  refine AW.region (by decide) ?_
  simp only [push_cast, Nat.reduceAdd, Nat.reduceMul, Nat.reduceSub, Nat.reduceLeDiff, Nat.reduceLT, Nat.reduceEqDiff, Nat.reduceBEq, Nat.reduceBNe, Nat.reduceMod, Nat.reduceDiv, Int.reduceLE, Int.reduceLT, Int.reduceToNat, Int.reduceAdd, Int.reduceSub, Int.reduceMul, Int.reduceNeg, Int.reduceEq, Int.reduceBEq, Int.reduceBNe, ↓reduceIte, reduceCtorEq, String.reduceBNe, String.reduceEq, reduceDIte, Nat.reducePow, h]
  refine Thn_n ?_
  refine hK _ _ ?_
  clear hK K
  refine AW.seq_k fun K hK => ?_
  refine AW.seq_k fun K hK => ?_
  refine AW.region (by decide) ?_
  simp only [push_cast, Nat.reduceAdd, Nat.reduceMul, Nat.reduceSub, Nat.reduceLeDiff, Nat.reduceLT, Nat.reduceEqDiff, Nat.reduceBEq, Nat.reduceBNe, Nat.reduceMod, Nat.reduceDiv, Int.reduceLE, Int.reduceLT, Int.reduceToNat, Int.reduceAdd, Int.reduceSub, Int.reduceMul, Int.reduceNeg, Int.reduceEq, Int.reduceBEq, Int.reduceBNe, ↓reduceIte, reduceCtorEq, String.reduceBNe, String.reduceEq, reduceDIte, Nat.reducePow, h]
  refine Thn_n ?_
  refine hK _ _ ?_
  clear hK K
  refine AW.cond_t rfl ?_
  refine AW.seq_k fun K hK => ?_
  refine AW.region (by decide) ?_
  simp only [push_cast, Nat.reduceAdd, Nat.reduceMul, Nat.reduceSub, Nat.reduceLeDiff, Nat.reduceLT, Nat.reduceEqDiff, Nat.reduceBEq, Nat.reduceBNe, Nat.reduceMod, Nat.reduceDiv, Int.reduceLE, Int.reduceLT, Int.reduceToNat, Int.reduceAdd, Int.reduceSub, Int.reduceMul, Int.reduceNeg, Int.reduceEq, Int.reduceBEq, Int.reduceBNe, ↓reduceIte, reduceCtorEq, String.reduceBNe, String.reduceEq, reduceDIte, Nat.reducePow, h]
  refine Thn_n ?_
  refine hK _ _ ?_
  clear hK K
  refine AW.ret ?_
  refine Thn_r ?_
  refine hQ _ _ _ ?_
  first | refine RetP.drop0 (Or.inr rfl) ?_ ?_ hwf | refine RetP.drop (Or.inr rfl) ?_ ?_ hwf
  · simp only [resA, resOne, resTv, AV.tv, push_cast, Nat.reduceAdd, Nat.reduceMul, Nat.reduceSub, Nat.reduceLeDiff, Nat.reduceLT, Nat.reduceEqDiff, Nat.reduceBEq, Nat.reduceBNe, Nat.reduceMod, Nat.reduceDiv, Int.reduceLE, Int.reduceLT, Int.reduceToNat, Int.reduceAdd, Int.reduceSub, Int.reduceMul, Int.reduceNeg, Int.reduceEq, Int.reduceBEq, Int.reduceBNe, ↓reduceIte, reduceCtorEq, String.reduceBNe, String.reduceEq, reduceDIte, Nat.reducePow, h]
  · rfl
theorem new_hi (x : Int) (m : AMem) (h : ¬ x < 1) (h2 : 8192 < x) : Ctr Try.prog 6 [.one (.int .i64 x)] m (.tup [(false, [.nilp]), (false, [.int .i64 1])]) m := by
  refine Ctr.enter Try.func6 rfl (by decide) (rs := [.tmp 2, .tmp 3]) (nt := 16) rfl rfl fun hwf Q hQ => ?_
  refine AW.seq_k fun K hK => ?_
  refine AW.region (by decide) ?_
  simp only [push_cast, Nat.reduceAdd, Nat.reduceMul, Nat.reduceSub, Nat.reduceLeDiff, Nat.reduceLT, Nat.reduceEqDiff, Nat.reduceBEq, Nat.reduceBNe, Nat.reduceMod, Nat.reduceDiv, Int.reduceLE, Int.reduceLT, Int.reduceToNat, Int.reduceAdd, Int.reduceSub, Int.reduceMul, Int.reduceNeg, Int.reduceEq, Int.reduceBEq, Int.reduceBNe, ↓reduceIte, reduceCtorEq, String.reduceBNe, String.reduceEq, reduceDIte, Nat.reducePow, h, h2]
  refine Thn_n ?_
  refine hK _ _ ?_
  clear hK K
  refine AW.seq_k fun K hK => ?_
  refine AW.seq_k fun K hK => ?_
  refine AW.region (by decide) ?_
  simp only [push_cast, Nat.reduceAdd, Nat.reduceMul, Nat.reduceSub, Nat.reduceLeDiff, Nat.reduceLT, Nat.reduceEqDiff, Nat.reduceBEq, Nat.reduceBNe, Nat.reduceMod, Nat.reduceDiv, Int.reduceLE, Int.reduceLT, Int.reduceToNat, Int.reduceAdd, Int.reduceSub, Int.reduceMul, Int.reduceNeg, Int.reduceEq, Int.reduceBEq, Int.reduceBNe, ↓reduceIte, reduceCtorEq, String.reduceBNe, String.reduceEq, reduceDIte, Nat.reducePow, h, h2]
  refine Thn_n ?_
  refine hK _ _ ?_
  clear hK K
  refine AW.cond_t rfl ?_
  refine AW.seq_k fun K hK => ?_
  refine AW.region (by decide) ?_
  simp only [push_cast, Nat.reduceAdd, Nat.reduceMul, Nat.reduceSub, Nat.reduceLeDiff, Nat.reduceLT, Nat.reduceEqDiff, Nat.reduceBEq, Nat.reduceBNe, Nat.reduceMod, Nat.reduceDiv, Int.reduceLE, Int.reduceLT, Int.reduceToNat, Int.reduceAdd, Int.reduceSub, Int.reduceMul, Int.reduceNeg, Int.reduceEq, Int.reduceBEq, Int.reduceBNe, ↓reduceIte, reduceCtorEq, String.reduceBNe, String.reduceEq, reduceDIte, Nat.reducePow, h, h2]
  refine Thn_n ?_
  refine hK _ _ ?_
  clear hK K
  refine AW.ret ?_
  refine Thn_r ?_
  refine hQ _ _ _ ?_
  first | refine RetP.drop0 (Or.inr rfl) ?_ ?_ hwf | refine RetP.drop (Or.inr rfl) ?_ ?_ hwf
  · simp only [resA, resOne, resTv, AV.tv, push_cast, Nat.reduceAdd, Nat.reduceMul, Nat.reduceSub, Nat.reduceLeDiff, Nat.reduceLT, Nat.reduceEqDiff, Nat.reduceBEq, Nat.reduceBNe, Nat.reduceMod, Nat.reduceDiv, Int.reduceLE, Int.reduceLT, Int.reduceToNat, Int.reduceAdd, Int.reduceSub, Int.reduceMul, Int.reduceNeg, Int.reduceEq, Int.reduceBEq, Int.reduceBNe, ↓reduceIte, reduceCtorEq, String.reduceBNe, String.reduceEq, reduceDIte, Nat.reducePow, h, h2]
  · rfl
theorem new_c (n : Nat) (m : AMem) (h0 : 0 < n) (h : n ≤ 8192) : Ctr Try.prog 6 [.one (.int .i64 (n : Int))] m (.tup [(false, [.ptr (m.length + 2) 0 0]), (false, [.int .i64 0])]) (m ++ [rowD n D0, mapD D0, drB m.length (m.length + 1) n D0]) := by
  refine Ctr.enter Try.func6 rfl (by decide) (rs := [.tmp 2, .tmp 3]) (nt := 16) rfl rfl fun hwf Q hQ => ?_
  have c1 : ¬ (n : Int) < 1 := by omega
  have c2 : ¬ (8192 : Int) < (n : Int) := by omega
  have c3 : (128 : Int) * (n : Int) ≤ 281474976710656 := by omega
  have c4 : (n : Int) ≤ 281474976710656 := by omega
  have c5 : (0 : Int) ≤ (n : Int) := by omega
  have hz : zeros zV ((n : Int).toNat * 128) = u8l (catB n fun _ => zB) := by rw [Int.toNat_natCast]; exact zeros_row n
  unfold zV at hz
  refine AW.seq_k fun K hK => ?_
  refine AW.region (by decide) ?_
  simp only [push_cast, Nat.reduceAdd, Nat.reduceMul, Nat.reduceSub, Nat.reduceLeDiff, Nat.reduceLT, Nat.reduceEqDiff, Nat.reduceBEq, Nat.reduceBNe, Nat.reduceMod, Nat.reduceDiv, Int.reduceLE, Int.reduceLT, Int.reduceToNat, Int.reduceAdd, Int.reduceSub, Int.reduceMul, Int.reduceNeg, Int.reduceEq, Int.reduceBEq, Int.reduceBNe, ↓reduceIte, reduceCtorEq, String.reduceBNe, String.reduceEq, reduceDIte, Nat.reducePow, ↓hz, c1, c2, c3, c4, c5, Int.le_refl, Int.toNat_natCast]
  refine Thn_n ?_
  refine hK _ _ ?_
  clear hK K
  refine AW.seq_k fun K hK => ?_
  refine AW.seq_k fun K hK => ?_
  refine AW.region (by decide) ?_
  simp only [push_cast, Nat.reduceAdd, Nat.reduceMul, Nat.reduceSub, Nat.reduceLeDiff, Nat.reduceLT, Nat.reduceEqDiff, Nat.reduceBEq, Nat.reduceBNe, Nat.reduceMod, Nat.reduceDiv, Int.reduceLE, Int.reduceLT, Int.reduceToNat, Int.reduceAdd, Int.reduceSub, Int.reduceMul, Int.reduceNeg, Int.reduceEq, Int.reduceBEq, Int.reduceBNe, ↓reduceIte, reduceCtorEq, String.reduceBNe, String.reduceEq, reduceDIte, Nat.reducePow, ↓hz, c1, c2, c3, c4, c5, Int.le_refl, Int.toNat_natCast]
  refine Thn_n ?_
  refine hK _ _ ?_
  clear hK K
  refine AW.cond_f rfl ?_
  refine AW.skip ?_
  refine Thn_n ?_
  refine hK _ _ ?_
  clear hK K
  refine AW.seq_k fun K hK => ?_
  refine AW.region (by decide) ?_
  simp only [push_cast, Nat.reduceAdd, Nat.reduceMul, Nat.reduceSub, Nat.reduceLeDiff, Nat.reduceLT, Nat.reduceEqDiff, Nat.reduceBEq, Nat.reduceBNe, Nat.reduceMod, Nat.reduceDiv, Int.reduceLE, Int.reduceLT, Int.reduceToNat, Int.reduceAdd, Int.reduceSub, Int.reduceMul, Int.reduceNeg, Int.reduceEq, Int.reduceBEq, Int.reduceBNe, ↓reduceIte, reduceCtorEq, String.reduceBNe, String.reduceEq, reduceDIte, Nat.reducePow, ↓hz, c1, c2, c3, c4, c5, Int.le_refl, Int.toNat_natCast]
  refine Thn_n ?_
  refine hK _ _ ?_
  clear hK K
  refine AW.ret ?_
  refine hQ _ _ _ ?_
  refine ⟨Or.inr rfl, _, ?_, Hands.all⟩
  simp only [resA, resOne, resTv, AV.tv, push_cast, Nat.reduceAdd, Nat.reduceMul, Nat.reduceSub, Nat.reduceLeDiff, Nat.reduceLT, Nat.reduceEqDiff, Nat.reduceBEq, Nat.reduceBNe, Nat.reduceMod, Nat.reduceDiv, Int.reduceLE, Int.reduceLT, Int.reduceToNat, Int.reduceAdd, Int.reduceSub, Int.reduceMul, Int.reduceNeg, Int.reduceEq, Int.reduceBEq, Int.reduceBNe, ↓reduceIte, reduceCtorEq, String.reduceBNe, String.reduceEq, reduceDIte, Nat.reducePow]
end Go.Proofs.Ytcahlnddcjifdaa

set_option linter.unusedSimpArgs false
set_option linter.unusedVariables false
set_option maxRecDepth 100000
set_option maxHeartbeats 4000000
namespace Go.Proofs.Ytcahlnddcjifdaa
open Go Go.Eng

theorem spend_no (rd rs rm n : Nat) (D : DS) (m : AMem) (hrd : m[rd]? = some (drB rs rm n D)) (hz : D.fuse = 0) : Ctr Try.prog 22 [.one (.ptr rd 0 0)] m (.one (.bool false)) (m.set rd (drB rs rm n (spD D))) := by
  refine Ctr.enter Try.func22 rfl (by decide) (rs := [.tmp 2]) (nt := 30) rfl rfl fun hwf Q hQ => ?_
  have ld := get_lt hrd
  have sD := fun (l : AMem) (b : Blk) (e : l.length = m.length) => mk_self (m := m) (l := l) (r := rd) e ld b
  have hw2 : MWf m.length (m.set rd (drB rs rm n (spD D))) := MWf_setB hwf (by have := hwf _ (List.mem_of_getElem? hrd); simpa [drB, Blk.below, CV.below, BK.below] using this) rfl
  have hspd : drB rs rm n (spD D) = ⟨.fix, 57, 0, 0, [.int .i64 D.steps, .int .i64 D.fuse, .bool true, .sl rs 0 0 n, .mp rm 0]⟩ := by simp [spD, hz, drB]
  have hz2 : (D.fuse == 0) = true := by simp [hz]
  refine AW.seq_k fun K hK => ?_
  refine AW.region (by decide) ?_
  simp only [push_cast, Nat.reduceAdd, Nat.reduceMul, Nat.reduceSub, Nat.reduceLeDiff, Nat.reduceLT, Nat.reduceEqDiff, Nat.reduceBEq, Nat.reduceBNe, Nat.reduceMod, Nat.reduceDiv, Int.reduceLE, Int.reduceLT, Int.reduceToNat, Int.reduceAdd, Int.reduceSub, Int.reduceMul, Int.reduceNeg, Int.reduceEq, Int.reduceBEq, Int.reduceBNe, ↓reduceIte, reduceCtorEq, String.reduceBNe, String.reduceEq, reduceDIte, Nat.reducePow, hrd, sD, List.set_set, List.length_set, drB, hz2]
  refine Thn_n ?_
  refine hK _ _ ?_
  clear hK K
  refine AW.seq_k fun K hK => ?_
  refine AW.seq_k fun K hK => ?_
  refine AW.region (by decide) ?_
  simp only [push_cast, Nat.reduceAdd, Nat.reduceMul, Nat.reduceSub, Nat.reduceLeDiff, Nat.reduceLT, Nat.reduceEqDiff, Nat.reduceBEq, Nat.reduceBNe, Nat.reduceMod, Nat.reduceDiv, Int.reduceLE, Int.reduceLT, Int.reduceToNat, Int.reduceAdd, Int.reduceSub, Int.reduceMul, Int.reduceNeg, Int.reduceEq, Int.reduceBEq, Int.reduceBNe, ↓reduceIte, reduceCtorEq, String.reduceBNe, String.reduceEq, reduceDIte, Nat.reducePow, hrd, sD, List.set_set, List.length_set, drB, hz2]
  refine Thn_n ?_
  refine hK _ _ ?_
  clear hK K
  refine AW.cond_t rfl ?_
  iterate 2
    refine AW.seq_k fun K hK => ?_
    refine AW.region (by decide) ?_
    simp only [push_cast, Nat.reduceAdd, Nat.reduceMul, Nat.reduceSub, Nat.reduceLeDiff, Nat.reduceLT, Nat.reduceEqDiff, Nat.reduceBEq, Nat.reduceBNe, Nat.reduceMod, Nat.reduceDiv, Int.reduceLE, Int.reduceLT, Int.reduceToNat, Int.reduceAdd, Int.reduceSub, Int.reduceMul, Int.reduceNeg, Int.reduceEq, Int.reduceBEq, Int.reduceBNe, ↓reduceIte, reduceCtorEq, String.reduceBNe, String.reduceEq, reduceDIte, Nat.reducePow, hrd, sD, List.set_set, List.length_set, drB, hz2]
    refine Thn_n ?_
    refine hK _ _ ?_
    clear hK K
  refine AW.ret ?_
  refine Thn_r ?_
  refine hQ _ _ _ ?_
  rw [hspd] at hw2 ⊢
  refine RetP.dropM0 (by rw [List.length_set]) (by first | exact Or.inr rfl | exact Or.inl rfl) ?_ ?_ hw2
  · simp only [resA, resOne, resTv, AV.tv, push_cast, Nat.reduceAdd, Nat.reduceMul, Nat.reduceSub, Nat.reduceLeDiff, Nat.reduceLT, Nat.reduceEqDiff, Nat.reduceBEq, Nat.reduceBNe, Nat.reduceMod, Nat.reduceDiv, Int.reduceLE, Int.reduceLT, Int.reduceToNat, Int.reduceAdd, Int.reduceSub, Int.reduceMul, Int.reduceNeg, Int.reduceEq, Int.reduceBEq, Int.reduceBNe, ↓reduceIte, reduceCtorEq, String.reduceBNe, String.reduceEq, reduceDIte, Nat.reducePow]
  · rfl
theorem spend_fuse (rd rs rm n : Nat) (D : DS) (m : AMem) (hrd : m[rd]? = some (drB rs rm n D)) (hz : ¬ D.fuse = 0) (hp : 0 < D.fuse) : Ctr Try.prog 22 [.one (.ptr rd 0 0)] m (.one (.bool true)) (m.set rd (drB rs rm n (spD D))) := by
  refine Ctr.enter Try.func22 rfl (by decide) (rs := [.tmp 2]) (nt := 30) rfl rfl fun hwf Q hQ => ?_
  have ld := get_lt hrd
  have sD := fun (l : AMem) (b : Blk) (e : l.length = m.length) => mk_self (m := m) (l := l) (r := rd) e ld b
  have hw2 : MWf m.length (m.set rd (drB rs rm n (spD D))) := MWf_setB hwf (by have := hwf _ (List.mem_of_getElem? hrd); simpa [drB, Blk.below, CV.below, BK.below] using this) rfl
  have hspd : drB rs rm n (spD D) = ⟨.fix, 57, 0, 0, [.int .i64 (IntKind.i64.wrap (D.steps + 1)), .int .i64 (IntKind.i64.wrap (D.fuse - 1)), .bool D.down, .sl rs 0 0 n, .mp rm 0]⟩ := by simp [spD, hz, drB, hp]
  have hz2 : (D.fuse == 0) = false := by simp [hz]
  have hp2 := hp
  refine AW.seq_k fun K hK => ?_
  refine AW.region (by decide) ?_
  simp only [push_cast, Nat.reduceAdd, Nat.reduceMul, Nat.reduceSub, Nat.reduceLeDiff, Nat.reduceLT, Nat.reduceEqDiff, Nat.reduceBEq, Nat.reduceBNe, Nat.reduceMod, Nat.reduceDiv, Int.reduceLE, Int.reduceLT, Int.reduceToNat, Int.reduceAdd, Int.reduceSub, Int.reduceMul, Int.reduceNeg, Int.reduceEq, Int.reduceBEq, Int.reduceBNe, ↓reduceIte, reduceCtorEq, String.reduceBNe, String.reduceEq, reduceDIte, Nat.reducePow, hrd, sD, List.set_set, List.length_set, drB, hz, hz2, hp]
  refine Thn_n ?_
  refine hK _ _ ?_
  clear hK K
  refine AW.seq_k fun K hK => ?_
  refine AW.seq_k fun K hK => ?_
  refine AW.region (by decide) ?_
  simp only [push_cast, Nat.reduceAdd, Nat.reduceMul, Nat.reduceSub, Nat.reduceLeDiff, Nat.reduceLT, Nat.reduceEqDiff, Nat.reduceBEq, Nat.reduceBNe, Nat.reduceMod, Nat.reduceDiv, Int.reduceLE, Int.reduceLT, Int.reduceToNat, Int.reduceAdd, Int.reduceSub, Int.reduceMul, Int.reduceNeg, Int.reduceEq, Int.reduceBEq, Int.reduceBNe, ↓reduceIte, reduceCtorEq, String.reduceBNe, String.reduceEq, reduceDIte, Nat.reducePow, hrd, sD, List.set_set, List.length_set, drB, hz, hz2, hp]
  refine Thn_n ?_
  refine hK _ _ ?_
  clear hK K
  refine AW.cond_f rfl ?_
  refine AW.skip ?_
  refine Thn_n ?_
  refine hK _ _ ?_
  clear hK K
  refine AW.seq_k fun K hK => ?_
  refine AW.seq_k fun K hK => ?_
  refine AW.region (by decide) ?_
  simp only [push_cast, Nat.reduceAdd, Nat.reduceMul, Nat.reduceSub, Nat.reduceLeDiff, Nat.reduceLT, Nat.reduceEqDiff, Nat.reduceBEq, Nat.reduceBNe, Nat.reduceMod, Nat.reduceDiv, Int.reduceLE, Int.reduceLT, Int.reduceToNat, Int.reduceAdd, Int.reduceSub, Int.reduceMul, Int.reduceNeg, Int.reduceEq, Int.reduceBEq, Int.reduceBNe, ↓reduceIte, reduceCtorEq, String.reduceBNe, String.reduceEq, reduceDIte, Nat.reducePow, hrd, sD, List.set_set, List.length_set, drB, hz, hz2, hp]
  refine Thn_n ?_
  refine hK _ _ ?_
  clear hK K
  refine AW.cond_t rfl ?_
  iterate 2
    refine AW.region (by decide) ?_
    simp only [push_cast, Nat.reduceAdd, Nat.reduceMul, Nat.reduceSub, Nat.reduceLeDiff, Nat.reduceLT, Nat.reduceEqDiff, Nat.reduceBEq, Nat.reduceBNe, Nat.reduceMod, Nat.reduceDiv, Int.reduceLE, Int.reduceLT, Int.reduceToNat, Int.reduceAdd, Int.reduceSub, Int.reduceMul, Int.reduceNeg, Int.reduceEq, Int.reduceBEq, Int.reduceBNe, ↓reduceIte, reduceCtorEq, String.reduceBNe, String.reduceEq, reduceDIte, Nat.reducePow, hrd, sD, List.set_set, List.length_set, drB, hz, hz2, hp]
    refine Thn_n ?_
    refine hK _ _ ?_
    clear hK K
    refine AW.seq_k fun K hK => ?_
  refine AW.region (by decide) ?_
  simp only [push_cast, Nat.reduceAdd, Nat.reduceMul, Nat.reduceSub, Nat.reduceLeDiff, Nat.reduceLT, Nat.reduceEqDiff, Nat.reduceBEq, Nat.reduceBNe, Nat.reduceMod, Nat.reduceDiv, Int.reduceLE, Int.reduceLT, Int.reduceToNat, Int.reduceAdd, Int.reduceSub, Int.reduceMul, Int.reduceNeg, Int.reduceEq, Int.reduceBEq, Int.reduceBNe, ↓reduceIte, reduceCtorEq, String.reduceBNe, String.reduceEq, reduceDIte, Nat.reducePow, hrd, sD, List.set_set, List.length_set, drB, hz, hz2, hp]
  refine Thn_n ?_
  refine hK _ _ ?_
  clear hK K
  refine AW.ret ?_
  refine hQ _ _ _ ?_
  rw [hspd] at hw2 ⊢
  refine RetP.dropM0 (by rw [List.length_set]) (by first | exact Or.inr rfl | exact Or.inl rfl) ?_ ?_ hw2
  · simp only [resA, resOne, resTv, AV.tv, push_cast, Nat.reduceAdd, Nat.reduceMul, Nat.reduceSub, Nat.reduceLeDiff, Nat.reduceLT, Nat.reduceEqDiff, Nat.reduceBEq, Nat.reduceBNe, Nat.reduceMod, Nat.reduceDiv, Int.reduceLE, Int.reduceLT, Int.reduceToNat, Int.reduceAdd, Int.reduceSub, Int.reduceMul, Int.reduceNeg, Int.reduceEq, Int.reduceBEq, Int.reduceBNe, ↓reduceIte, reduceCtorEq, String.reduceBNe, String.reduceEq, reduceDIte, Nat.reducePow]
  · rfl
theorem spend_free (rd rs rm n : Nat) (D : DS) (m : AMem) (hrd : m[rd]? = some (drB rs rm n D)) (hz : ¬ D.fuse = 0) (hp : ¬ 0 < D.fuse) : Ctr Try.prog 22 [.one (.ptr rd 0 0)] m (.one (.bool true)) (m.set rd (drB rs rm n (spD D))) := by
  refine Ctr.enter Try.func22 rfl (by decide) (rs := [.tmp 2]) (nt := 30) rfl rfl fun hwf Q hQ => ?_
  have ld := get_lt hrd
  have sD := fun (l : AMem) (b : Blk) (e : l.length = m.length) => mk_self (m := m) (l := l) (r := rd) e ld b
  have hw2 : MWf m.length (m.set rd (drB rs rm n (spD D))) := MWf_setB hwf (by have := hwf _ (List.mem_of_getElem? hrd); simpa [drB, Blk.below, CV.below, BK.below] using this) rfl
  have hspd : drB rs rm n (spD D) = ⟨.fix, 57, 0, 0, [.int .i64 (IntKind.i64.wrap (D.steps + 1)), .int .i64 D.fuse, .bool D.down, .sl rs 0 0 n, .mp rm 0]⟩ := by simp [spD, hz, drB, hp]
  have hz2 : (D.fuse == 0) = false := by simp [hz]
  have hp2 := hp
  refine AW.seq_k fun K hK => ?_
  refine AW.region (by decide) ?_
  simp only [push_cast, Nat.reduceAdd, Nat.reduceMul, Nat.reduceSub, Nat.reduceLeDiff, Nat.reduceLT, Nat.reduceEqDiff, Nat.reduceBEq, Nat.reduceBNe, Nat.reduceMod, Nat.reduceDiv, Int.reduceLE, Int.reduceLT, Int.reduceToNat, Int.reduceAdd, Int.reduceSub, Int.reduceMul, Int.reduceNeg, Int.reduceEq, Int.reduceBEq, Int.reduceBNe, ↓reduceIte, reduceCtorEq, String.reduceBNe, String.reduceEq, reduceDIte, Nat.reducePow, hrd, sD, List.set_set, List.length_set, drB, hz, hz2, hp]
  iterate 2
    refine Thn_n ?_
    refine hK _ _ ?_
    clear hK K
    refine AW.seq_k fun K hK => ?_
    refine AW.seq_k fun K hK => ?_
    refine AW.region (by decide) ?_
    simp only [push_cast, Nat.reduceAdd, Nat.reduceMul, Nat.reduceSub, Nat.reduceLeDiff, Nat.reduceLT, Nat.reduceEqDiff, Nat.reduceBEq, Nat.reduceBNe, Nat.reduceMod, Nat.reduceDiv, Int.reduceLE, Int.reduceLT, Int.reduceToNat, Int.reduceAdd, Int.reduceSub, Int.reduceMul, Int.reduceNeg, Int.reduceEq, Int.reduceBEq, Int.reduceBNe, ↓reduceIte, reduceCtorEq, String.reduceBNe, String.reduceEq, reduceDIte, Nat.reducePow, hrd, sD, List.set_set, List.length_set, drB, hz, hz2, hp]
    refine Thn_n ?_
    refine hK _ _ ?_
    clear hK K
    refine AW.cond_f rfl ?_
    refine AW.skip ?_
  iterate 2
    refine Thn_n ?_
    refine hK _ _ ?_
    clear hK K
    refine AW.seq_k fun K hK => ?_
    refine AW.region (by decide) ?_
    simp only [push_cast, Nat.reduceAdd, Nat.reduceMul, Nat.reduceSub, Nat.reduceLeDiff, Nat.reduceLT, Nat.reduceEqDiff, Nat.reduceBEq, Nat.reduceBNe, Nat.reduceMod, Nat.reduceDiv, Int.reduceLE, Int.reduceLT, Int.reduceToNat, Int.reduceAdd, Int.reduceSub, Int.reduceMul, Int.reduceNeg, Int.reduceEq, Int.reduceBEq, Int.reduceBNe, ↓reduceIte, reduceCtorEq, String.reduceBNe, String.reduceEq, reduceDIte, Nat.reducePow, hrd, sD, List.set_set, List.length_set, drB, hz, hz2, hp]
  refine Thn_n ?_
  refine hK _ _ ?_
  clear hK K
  refine AW.ret ?_
  refine hQ _ _ _ ?_
  rw [hspd] at hw2 ⊢
  refine RetP.dropM0 (by rw [List.length_set]) (by first | exact Or.inr rfl | exact Or.inl rfl) ?_ ?_ hw2
  · simp only [resA, resOne, resTv, AV.tv, push_cast, Nat.reduceAdd, Nat.reduceMul, Nat.reduceSub, Nat.reduceLeDiff, Nat.reduceLT, Nat.reduceEqDiff, Nat.reduceBEq, Nat.reduceBNe, Nat.reduceMod, Nat.reduceDiv, Int.reduceLE, Int.reduceLT, Int.reduceToNat, Int.reduceAdd, Int.reduceSub, Int.reduceMul, Int.reduceNeg, Int.reduceEq, Int.reduceBEq, Int.reduceBNe, ↓reduceIte, reduceCtorEq, String.reduceBNe, String.reduceEq, reduceDIte, Nat.reducePow]
  · rfl
theorem spend_go (rd rs rm n : Nat) (D : DS) (m : AMem) (hrd : m[rd]? = some (drB rs rm n D)) (hz : ¬ D.fuse = 0) : Ctr Try.prog 22 [.one (.ptr rd 0 0)] m (.one (.bool true)) (m.set rd (drB rs rm n (spD D))) := by
  rcases Classical.em (0 < D.fuse) with hp | hp
  · exact spend_fuse rd rs rm n D m hrd hz hp
  · exact spend_free rd rs rm n D m hrd hz hp
theorem up_nil (m : AMem) : Ctr Try.prog 23 [.one .nilp] m (.one (.int .i64 2)) m := by
  refine Ctr.enter Try.func23 rfl (by decide) (rs := [.tmp 2]) (nt := 12) rfl rfl fun hwf Q hQ => ?_
  refine AW.seq_k fun K hK => ?_
  refine AW.region (by decide) ?_
  simp only [push_cast, Nat.reduceAdd, Nat.reduceMul, Nat.reduceSub, Nat.reduceLeDiff, Nat.reduceLT, Nat.reduceEqDiff, Nat.reduceBEq, Nat.reduceBNe, Nat.reduceMod, Nat.reduceDiv, Int.reduceLE, Int.reduceLT, Int.reduceToNat, Int.reduceAdd, Int.reduceSub, Int.reduceMul, Int.reduceNeg, Int.reduceEq, Int.reduceBEq, Int.reduceBNe, ↓reduceIte, reduceCtorEq, String.reduceBNe, String.reduceEq, reduceDIte, Nat.reducePow]
  refine Thn_n ?_
  refine hK _ _ ?_
  clear hK K
  refine AW.seq_k fun K hK => ?_
  refine AW.block ?_
  refine AW.seq_k fun K hK => ?_
  refine AW.region (by decide) ?_
  simp only [push_cast, Nat.reduceAdd, Nat.reduceMul, Nat.reduceSub, Nat.reduceLeDiff, Nat.reduceLT, Nat.reduceEqDiff, Nat.reduceBEq, Nat.reduceBNe, Nat.reduceMod, Nat.reduceDiv, Int.reduceLE, Int.reduceLT, Int.reduceToNat, Int.reduceAdd, Int.reduceSub, Int.reduceMul, Int.reduceNeg, Int.reduceEq, Int.reduceBEq, Int.reduceBNe, ↓reduceIte, reduceCtorEq, String.reduceBNe, String.reduceEq, reduceDIte, Nat.reducePow]
  refine Thn_n ?_
  refine hK _ _ ?_
  clear hK K
  refine AW.cond_t rfl ?_
  refine AW.seq_k fun K hK => ?_
  refine AW.region (by decide) ?_
  simp only [push_cast, Nat.reduceAdd, Nat.reduceMul, Nat.reduceSub, Nat.reduceLeDiff, Nat.reduceLT, Nat.reduceEqDiff, Nat.reduceBEq, Nat.reduceBNe, Nat.reduceMod, Nat.reduceDiv, Int.reduceLE, Int.reduceLT, Int.reduceToNat, Int.reduceAdd, Int.reduceSub, Int.reduceMul, Int.reduceNeg, Int.reduceEq, Int.reduceBEq, Int.reduceBNe, ↓reduceIte, reduceCtorEq, String.reduceBNe, String.reduceEq, reduceDIte, Nat.reducePow]
  refine Thn_n ?_
  refine hK _ _ ?_
  clear hK K
  refine AW.ret ?_
  refine InB_r ?_
  refine Thn_r ?_
  refine hQ _ _ _ ?_
  first | refine RetP.drop0 (Or.inr rfl) ?_ ?_ hwf | refine RetP.drop (Or.inr rfl) ?_ ?_ hwf
  · simp only [resA, resOne, resTv, AV.tv, push_cast, Nat.reduceAdd, Nat.reduceMul, Nat.reduceSub, Nat.reduceLeDiff, Nat.reduceLT, Nat.reduceEqDiff, Nat.reduceBEq, Nat.reduceBNe, Nat.reduceMod, Nat.reduceDiv, Int.reduceLE, Int.reduceLT, Int.reduceToNat, Int.reduceAdd, Int.reduceSub, Int.reduceMul, Int.reduceNeg, Int.reduceEq, Int.reduceBEq, Int.reduceBNe, ↓reduceIte, reduceCtorEq, String.reduceBNe, String.reduceEq, reduceDIte, Nat.reducePow]
  · rfl
theorem up_down (rd rs rm n : Nat) (D : DS) (m : AMem) (hrd : m[rd]? = some (drB rs rm n D)) (h : D.down = true) : Ctr Try.prog 23 [.one (.ptr rd 0 0)] m (.one (.int .i64 5)) m := by
  refine Ctr.enter Try.func23 rfl (by decide) (rs := [.tmp 2]) (nt := 12) rfl rfl fun hwf Q hQ => ?_
  
  refine AW.seq_k fun K hK => ?_
  refine AW.region (by decide) ?_
  simp only [push_cast, Nat.reduceAdd, Nat.reduceMul, Nat.reduceSub, Nat.reduceLeDiff, Nat.reduceLT, Nat.reduceEqDiff, Nat.reduceBEq, Nat.reduceBNe, Nat.reduceMod, Nat.reduceDiv, Int.reduceLE, Int.reduceLT, Int.reduceToNat, Int.reduceAdd, Int.reduceSub, Int.reduceMul, Int.reduceNeg, Int.reduceEq, Int.reduceBEq, Int.reduceBNe, ↓reduceIte, reduceCtorEq, String.reduceBNe, String.reduceEq, reduceDIte, Nat.reducePow, hrd, drB, h]
  refine Thn_n ?_
  refine hK _ _ ?_
  clear hK K
  refine AW.seq_k fun K hK => ?_
  refine AW.block ?_
  refine AW.seq_k fun K hK => ?_
  refine AW.region (by decide) ?_
  simp only [push_cast, Nat.reduceAdd, Nat.reduceMul, Nat.reduceSub, Nat.reduceLeDiff, Nat.reduceLT, Nat.reduceEqDiff, Nat.reduceBEq, Nat.reduceBNe, Nat.reduceMod, Nat.reduceDiv, Int.reduceLE, Int.reduceLT, Int.reduceToNat, Int.reduceAdd, Int.reduceSub, Int.reduceMul, Int.reduceNeg, Int.reduceEq, Int.reduceBEq, Int.reduceBNe, ↓reduceIte, reduceCtorEq, String.reduceBNe, String.reduceEq, reduceDIte, Nat.reducePow, hrd, drB, h]
  refine Thn_n ?_
  refine hK _ _ ?_
  clear hK K
  refine AW.cond_f rfl ?_
  refine AW.seq_k fun K hK => ?_
  refine AW.region (by decide) ?_
  simp only [push_cast, Nat.reduceAdd, Nat.reduceMul, Nat.reduceSub, Nat.reduceLeDiff, Nat.reduceLT, Nat.reduceEqDiff, Nat.reduceBEq, Nat.reduceBNe, Nat.reduceMod, Nat.reduceDiv, Int.reduceLE, Int.reduceLT, Int.reduceToNat, Int.reduceAdd, Int.reduceSub, Int.reduceMul, Int.reduceNeg, Int.reduceEq, Int.reduceBEq, Int.reduceBNe, ↓reduceIte, reduceCtorEq, String.reduceBNe, String.reduceEq, reduceDIte, Nat.reducePow, hrd, drB, h]
  refine Thn_n ?_
  refine hK _ _ ?_
  clear hK K
  refine AW.cond_t rfl ?_
  refine AW.seq_k fun K hK => ?_
  refine AW.region (by decide) ?_
  simp only [push_cast, Nat.reduceAdd, Nat.reduceMul, Nat.reduceSub, Nat.reduceLeDiff, Nat.reduceLT, Nat.reduceEqDiff, Nat.reduceBEq, Nat.reduceBNe, Nat.reduceMod, Nat.reduceDiv, Int.reduceLE, Int.reduceLT, Int.reduceToNat, Int.reduceAdd, Int.reduceSub, Int.reduceMul, Int.reduceNeg, Int.reduceEq, Int.reduceBEq, Int.reduceBNe, ↓reduceIte, reduceCtorEq, String.reduceBNe, String.reduceEq, reduceDIte, Nat.reducePow, hrd, drB, h]
  refine Thn_n ?_
  refine hK _ _ ?_
  clear hK K
  refine AW.ret ?_
  refine InB_r ?_
  refine Thn_r ?_
  refine hQ _ _ _ ?_
  first | refine RetP.drop0 (Or.inr rfl) ?_ ?_ hwf | refine RetP.drop (Or.inr rfl) ?_ ?_ hwf
  · simp only [resA, resOne, resTv, AV.tv, push_cast, Nat.reduceAdd, Nat.reduceMul, Nat.reduceSub, Nat.reduceLeDiff, Nat.reduceLT, Nat.reduceEqDiff, Nat.reduceBEq, Nat.reduceBNe, Nat.reduceMod, Nat.reduceDiv, Int.reduceLE, Int.reduceLT, Int.reduceToNat, Int.reduceAdd, Int.reduceSub, Int.reduceMul, Int.reduceNeg, Int.reduceEq, Int.reduceBEq, Int.reduceBNe, ↓reduceIte, reduceCtorEq, String.reduceBNe, String.reduceEq, reduceDIte, Nat.reducePow, hrd, drB, h]
  · rfl
theorem up_ok (rd rs rm n : Nat) (D : DS) (m : AMem) (hrd : m[rd]? = some (drB rs rm n D)) (h : D.down = false) : Ctr Try.prog 23 [.one (.ptr rd 0 0)] m (.one (.int .i64 0)) m := by
  refine Ctr.enter Try.func23 rfl (by decide) (rs := [.tmp 2]) (nt := 12) rfl rfl fun hwf Q hQ => ?_
  
  refine AW.seq_k fun K hK => ?_
  refine AW.region (by decide) ?_
  simp only [push_cast, Nat.reduceAdd, Nat.reduceMul, Nat.reduceSub, Nat.reduceLeDiff, Nat.reduceLT, Nat.reduceEqDiff, Nat.reduceBEq, Nat.reduceBNe, Nat.reduceMod, Nat.reduceDiv, Int.reduceLE, Int.reduceLT, Int.reduceToNat, Int.reduceAdd, Int.reduceSub, Int.reduceMul, Int.reduceNeg, Int.reduceEq, Int.reduceBEq, Int.reduceBNe, ↓reduceIte, reduceCtorEq, String.reduceBNe, String.reduceEq, reduceDIte, Nat.reducePow, hrd, drB, h]
  refine Thn_n ?_
  refine hK _ _ ?_
  clear hK K
  refine AW.seq_k fun K hK => ?_
  refine AW.block ?_
  iterate 2
    refine AW.seq_k fun K hK => ?_
    refine AW.region (by decide) ?_
    simp only [push_cast, Nat.reduceAdd, Nat.reduceMul, Nat.reduceSub, Nat.reduceLeDiff, Nat.reduceLT, Nat.reduceEqDiff, Nat.reduceBEq, Nat.reduceBNe, Nat.reduceMod, Nat.reduceDiv, Int.reduceLE, Int.reduceLT, Int.reduceToNat, Int.reduceAdd, Int.reduceSub, Int.reduceMul, Int.reduceNeg, Int.reduceEq, Int.reduceBEq, Int.reduceBNe, ↓reduceIte, reduceCtorEq, String.reduceBNe, String.reduceEq, reduceDIte, Nat.reducePow, hrd, drB, h]
    refine Thn_n ?_
    refine hK _ _ ?_
    clear hK K
    refine AW.cond_f rfl ?_
  refine AW.skip ?_
  refine InB_n ?_
  refine Thn_n ?_
  refine hK _ _ ?_
  clear hK K
  refine AW.seq_k fun K hK => ?_
  refine AW.region (by decide) ?_
  simp only [push_cast, Nat.reduceAdd, Nat.reduceMul, Nat.reduceSub, Nat.reduceLeDiff, Nat.reduceLT, Nat.reduceEqDiff, Nat.reduceBEq, Nat.reduceBNe, Nat.reduceMod, Nat.reduceDiv, Int.reduceLE, Int.reduceLT, Int.reduceToNat, Int.reduceAdd, Int.reduceSub, Int.reduceMul, Int.reduceNeg, Int.reduceEq, Int.reduceBEq, Int.reduceBNe, ↓reduceIte, reduceCtorEq, String.reduceBNe, String.reduceEq, reduceDIte, Nat.reducePow, hrd, drB, h]
  refine Thn_n ?_
  refine hK _ _ ?_
  clear hK K
  refine AW.ret ?_
  refine hQ _ _ _ ?_
  first | refine RetP.drop0 (Or.inr rfl) ?_ ?_ hwf | refine RetP.drop (Or.inr rfl) ?_ ?_ hwf
  · simp only [resA, resOne, resTv, AV.tv, push_cast, Nat.reduceAdd, Nat.reduceMul, Nat.reduceSub, Nat.reduceLeDiff, Nat.reduceLT, Nat.reduceEqDiff, Nat.reduceBEq, Nat.reduceBNe, Nat.reduceMod, Nat.reduceDiv, Int.reduceLE, Int.reduceLT, Int.reduceToNat, Int.reduceAdd, Int.reduceSub, Int.reduceMul, Int.reduceNeg, Int.reduceEq, Int.reduceBEq, Int.reduceBNe, ↓reduceIte, reduceCtorEq, String.reduceBNe, String.reduceEq, reduceDIte, Nat.reducePow, hrd, drB, h]
  · rfl
theorem in_nil (x : Int) (m : AMem) : Ctr Try.prog 21 [.one .nilp, .one (.int .i64 x)] m (.one (.int .i64 2)) m := by
  refine Ctr.enter Try.func21 rfl (by decide) (rs := [.tmp 4]) (nt := 22) rfl rfl fun hwf Q hQ => ?_
  refine AW.seq_k fun K hK => ?_
  refine AW.region (by decide) ?_
  simp only [push_cast, Nat.reduceAdd, Nat.reduceMul, Nat.reduceSub, Nat.reduceLeDiff, Nat.reduceLT, Nat.reduceEqDiff, Nat.reduceBEq, Nat.reduceBNe, Nat.reduceMod, Nat.reduceDiv, Int.reduceLE, Int.reduceLT, Int.reduceToNat, Int.reduceAdd, Int.reduceSub, Int.reduceMul, Int.reduceNeg, Int.reduceEq, Int.reduceBEq, Int.reduceBNe, ↓reduceIte, reduceCtorEq, String.reduceBNe, String.reduceEq, reduceDIte, Nat.reducePow]
  refine Thn_n ?_
  refine hK _ _ ?_
  clear hK K
  refine AW.seq_k fun K hK => ?_
  refine AW.seq_k fun K hK => ?_
  refine AW.region (by decide) ?_
  simp only [push_cast, Nat.reduceAdd, Nat.reduceMul, Nat.reduceSub, Nat.reduceLeDiff, Nat.reduceLT, Nat.reduceEqDiff, Nat.reduceBEq, Nat.reduceBNe, Nat.reduceMod, Nat.reduceDiv, Int.reduceLE, Int.reduceLT, Int.reduceToNat, Int.reduceAdd, Int.reduceSub, Int.reduceMul, Int.reduceNeg, Int.reduceEq, Int.reduceBEq, Int.reduceBNe, ↓reduceIte, reduceCtorEq, String.reduceBNe, String.reduceEq, reduceDIte, Nat.reducePow]
  refine CThen.by (up_nil _) ?_
  simp only [push_cast, Nat.reduceAdd, Nat.reduceMul, Nat.reduceSub, Nat.reduceLeDiff, Nat.reduceLT, Nat.reduceEqDiff, Nat.reduceBEq, Nat.reduceBNe, Nat.reduceMod, Nat.reduceDiv, Int.reduceLE, Int.reduceLT, Int.reduceToNat, Int.reduceAdd, Int.reduceSub, Int.reduceMul, Int.reduceNeg, Int.reduceEq, Int.reduceBEq, Int.reduceBNe, ↓reduceIte, reduceCtorEq, String.reduceBNe, String.reduceEq, reduceDIte, Nat.reducePow]
  refine Thn_n ?_
  refine hK _ _ ?_
  clear hK K
  refine AW.seq_k fun K hK => ?_
  refine AW.region (by decide) ?_
  simp only [push_cast, Nat.reduceAdd, Nat.reduceMul, Nat.reduceSub, Nat.reduceLeDiff, Nat.reduceLT, Nat.reduceEqDiff, Nat.reduceBEq, Nat.reduceBNe, Nat.reduceMod, Nat.reduceDiv, Int.reduceLE, Int.reduceLT, Int.reduceToNat, Int.reduceAdd, Int.reduceSub, Int.reduceMul, Int.reduceNeg, Int.reduceEq, Int.reduceBEq, Int.reduceBNe, ↓reduceIte, reduceCtorEq, String.reduceBNe, String.reduceEq, reduceDIte, Nat.reducePow]
  refine Thn_n ?_
  refine hK _ _ ?_
  clear hK K
  refine AW.cond_t rfl ?_
  refine AW.seq_k fun K hK => ?_
  refine AW.region (by decide) ?_
  simp only [push_cast, Nat.reduceAdd, Nat.reduceMul, Nat.reduceSub, Nat.reduceLeDiff, Nat.reduceLT, Nat.reduceEqDiff, Nat.reduceBEq, Nat.reduceBNe, Nat.reduceMod, Nat.reduceDiv, Int.reduceLE, Int.reduceLT, Int.reduceToNat, Int.reduceAdd, Int.reduceSub, Int.reduceMul, Int.reduceNeg, Int.reduceEq, Int.reduceBEq, Int.reduceBNe, ↓reduceIte, reduceCtorEq, String.reduceBNe, String.reduceEq, reduceDIte, Nat.reducePow]
  refine Thn_n ?_
  refine hK _ _ ?_
  clear hK K
  refine AW.ret ?_
  refine Thn_r ?_
  refine hQ _ _ _ ?_
  first | refine RetP.drop0 (Or.inr rfl) ?_ ?_ hwf | refine RetP.drop (Or.inr rfl) ?_ ?_ hwf
  · simp only [resA, resOne, resTv, AV.tv, push_cast, Nat.reduceAdd, Nat.reduceMul, Nat.reduceSub, Nat.reduceLeDiff, Nat.reduceLT, Nat.reduceEqDiff, Nat.reduceBEq, Nat.reduceBNe, Nat.reduceMod, Nat.reduceDiv, Int.reduceLE, Int.reduceLT, Int.reduceToNat, Int.reduceAdd, Int.reduceSub, Int.reduceMul, Int.reduceNeg, Int.reduceEq, Int.reduceBEq, Int.reduceBNe, ↓reduceIte, reduceCtorEq, String.reduceBNe, String.reduceEq, reduceDIte, Nat.reducePow]
  · rfl
theorem in_down (rd rs rm n : Nat) (D : DS) (x : Int) (m : AMem) (hrd : m[rd]? = some (drB rs rm n D)) (h : D.down = true) : Ctr Try.prog 21 [.one (.ptr rd 0 0), .one (.int .i64 x)] m (.one (.int .i64 5)) m := by
  refine Ctr.enter Try.func21 rfl (by decide) (rs := [.tmp 4]) (nt := 22) rfl rfl fun hwf Q hQ => ?_
  
  refine AW.seq_k fun K hK => ?_
  refine AW.region (by decide) ?_
  simp only [push_cast, Nat.reduceAdd, Nat.reduceMul, Nat.reduceSub, Nat.reduceLeDiff, Nat.reduceLT, Nat.reduceEqDiff, Nat.reduceBEq, Nat.reduceBNe, Nat.reduceMod, Nat.reduceDiv, Int.reduceLE, Int.reduceLT, Int.reduceToNat, Int.reduceAdd, Int.reduceSub, Int.reduceMul, Int.reduceNeg, Int.reduceEq, Int.reduceBEq, Int.reduceBNe, ↓reduceIte, reduceCtorEq, String.reduceBNe, String.reduceEq, reduceDIte, Nat.reducePow, hrd, drB, h]
  refine Thn_n ?_
  refine hK _ _ ?_
  clear hK K
  refine AW.seq_k fun K hK => ?_
  refine AW.seq_k fun K hK => ?_
  refine AW.region (by decide) ?_
  simp only [push_cast, Nat.reduceAdd, Nat.reduceMul, Nat.reduceSub, Nat.reduceLeDiff, Nat.reduceLT, Nat.reduceEqDiff, Nat.reduceBEq, Nat.reduceBNe, Nat.reduceMod, Nat.reduceDiv, Int.reduceLE, Int.reduceLT, Int.reduceToNat, Int.reduceAdd, Int.reduceSub, Int.reduceMul, Int.reduceNeg, Int.reduceEq, Int.reduceBEq, Int.reduceBNe, ↓reduceIte, reduceCtorEq, String.reduceBNe, String.reduceEq, reduceDIte, Nat.reducePow, hrd, drB, h]
  refine CThen.by (up_down rd rs rm n D _ hrd h) ?_
  simp only [push_cast, Nat.reduceAdd, Nat.reduceMul, Nat.reduceSub, Nat.reduceLeDiff, Nat.reduceLT, Nat.reduceEqDiff, Nat.reduceBEq, Nat.reduceBNe, Nat.reduceMod, Nat.reduceDiv, Int.reduceLE, Int.reduceLT, Int.reduceToNat, Int.reduceAdd, Int.reduceSub, Int.reduceMul, Int.reduceNeg, Int.reduceEq, Int.reduceBEq, Int.reduceBNe, ↓reduceIte, reduceCtorEq, String.reduceBNe, String.reduceEq, reduceDIte, Nat.reducePow, hrd, drB, h]
  refine Thn_n ?_
  refine hK _ _ ?_
  clear hK K
  refine AW.seq_k fun K hK => ?_
  refine AW.region (by decide) ?_
  simp only [push_cast, Nat.reduceAdd, Nat.reduceMul, Nat.reduceSub, Nat.reduceLeDiff, Nat.reduceLT, Nat.reduceEqDiff, Nat.reduceBEq, Nat.reduceBNe, Nat.reduceMod, Nat.reduceDiv, Int.reduceLE, Int.reduceLT, Int.reduceToNat, Int.reduceAdd, Int.reduceSub, Int.reduceMul, Int.reduceNeg, Int.reduceEq, Int.reduceBEq, Int.reduceBNe, ↓reduceIte, reduceCtorEq, String.reduceBNe, String.reduceEq, reduceDIte, Nat.reducePow, hrd, drB, h]
  refine Thn_n ?_
  refine hK _ _ ?_
  clear hK K
  refine AW.cond_t rfl ?_
  refine AW.seq_k fun K hK => ?_
  refine AW.region (by decide) ?_
  simp only [push_cast, Nat.reduceAdd, Nat.reduceMul, Nat.reduceSub, Nat.reduceLeDiff, Nat.reduceLT, Nat.reduceEqDiff, Nat.reduceBEq, Nat.reduceBNe, Nat.reduceMod, Nat.reduceDiv, Int.reduceLE, Int.reduceLT, Int.reduceToNat, Int.reduceAdd, Int.reduceSub, Int.reduceMul, Int.reduceNeg, Int.reduceEq, Int.reduceBEq, Int.reduceBNe, ↓reduceIte, reduceCtorEq, String.reduceBNe, String.reduceEq, reduceDIte, Nat.reducePow, hrd, drB, h]
  refine Thn_n ?_
  refine hK _ _ ?_
  clear hK K
  refine AW.ret ?_
  refine Thn_r ?_
  refine hQ _ _ _ ?_
  first | refine RetP.drop0 (Or.inr rfl) ?_ ?_ hwf | refine RetP.drop (Or.inr rfl) ?_ ?_ hwf
  · simp only [resA, resOne, resTv, AV.tv, push_cast, Nat.reduceAdd, Nat.reduceMul, Nat.reduceSub, Nat.reduceLeDiff, Nat.reduceLT, Nat.reduceEqDiff, Nat.reduceBEq, Nat.reduceBNe, Nat.reduceMod, Nat.reduceDiv, Int.reduceLE, Int.reduceLT, Int.reduceToNat, Int.reduceAdd, Int.reduceSub, Int.reduceMul, Int.reduceNeg, Int.reduceEq, Int.reduceBEq, Int.reduceBNe, ↓reduceIte, reduceCtorEq, String.reduceBNe, String.reduceEq, reduceDIte, Nat.reducePow, hrd, drB, h]
  · rfl
theorem in_lo (rd rs rm n : Nat) (D : DS) (x : Int) (m : AMem) (hrd : m[rd]? = some (drB rs rm n D)) (h : D.down = false) (h1 : x < 0) : Ctr Try.prog 21 [.one (.ptr rd 0 0), .one (.int .i64 x)] m (.one (.int .i64 1)) m := by
  refine Ctr.enter Try.func21 rfl (by decide) (rs := [.tmp 4]) (nt := 22) rfl rfl fun hwf Q hQ => ?_
  refine AW.seq_k fun K hK => ?_
  refine AW.region (by decide) ?_
  simp only [push_cast, Nat.reduceAdd, Nat.reduceMul, Nat.reduceSub, Nat.reduceLeDiff, Nat.reduceLT, Nat.reduceEqDiff, Nat.reduceBEq, Nat.reduceBNe, Nat.reduceMod, Nat.reduceDiv, Int.reduceLE, Int.reduceLT, Int.reduceToNat, Int.reduceAdd, Int.reduceSub, Int.reduceMul, Int.reduceNeg, Int.reduceEq, Int.reduceBEq, Int.reduceBNe, ↓reduceIte, reduceCtorEq, String.reduceBNe, String.reduceEq, reduceDIte, Nat.reducePow, hrd, drB, h, h1]
  refine Thn_n ?_
  refine hK _ _ ?_
  clear hK K
  refine AW.seq_k fun K hK => ?_
  refine AW.seq_k fun K hK => ?_
  refine AW.region (by decide) ?_
  simp only [push_cast, Nat.reduceAdd, Nat.reduceMul, Nat.reduceSub, Nat.reduceLeDiff, Nat.reduceLT, Nat.reduceEqDiff, Nat.reduceBEq, Nat.reduceBNe, Nat.reduceMod, Nat.reduceDiv, Int.reduceLE, Int.reduceLT, Int.reduceToNat, Int.reduceAdd, Int.reduceSub, Int.reduceMul, Int.reduceNeg, Int.reduceEq, Int.reduceBEq, Int.reduceBNe, ↓reduceIte, reduceCtorEq, String.reduceBNe, String.reduceEq, reduceDIte, Nat.reducePow, hrd, drB, h, h1]
  refine CThen.by (up_ok rd rs rm n D _ hrd h) ?_
  simp only [push_cast, Nat.reduceAdd, Nat.reduceMul, Nat.reduceSub, Nat.reduceLeDiff, Nat.reduceLT, Nat.reduceEqDiff, Nat.reduceBEq, Nat.reduceBNe, Nat.reduceMod, Nat.reduceDiv, Int.reduceLE, Int.reduceLT, Int.reduceToNat, Int.reduceAdd, Int.reduceSub, Int.reduceMul, Int.reduceNeg, Int.reduceEq, Int.reduceBEq, Int.reduceBNe, ↓reduceIte, reduceCtorEq, String.reduceBNe, String.reduceEq, reduceDIte, Nat.reducePow, hrd, drB, h, h1]
  refine Thn_n ?_
  refine hK _ _ ?_
  clear hK K
  refine AW.seq_k fun K hK => ?_
  refine AW.region (by decide) ?_
  simp only [push_cast, Nat.reduceAdd, Nat.reduceMul, Nat.reduceSub, Nat.reduceLeDiff, Nat.reduceLT, Nat.reduceEqDiff, Nat.reduceBEq, Nat.reduceBNe, Nat.reduceMod, Nat.reduceDiv, Int.reduceLE, Int.reduceLT, Int.reduceToNat, Int.reduceAdd, Int.reduceSub, Int.reduceMul, Int.reduceNeg, Int.reduceEq, Int.reduceBEq, Int.reduceBNe, ↓reduceIte, reduceCtorEq, String.reduceBNe, String.reduceEq, reduceDIte, Nat.reducePow, hrd, drB, h, h1]
  refine Thn_n ?_
  refine hK _ _ ?_
  clear hK K
  refine AW.cond_f rfl ?_
  refine AW.skip ?_
  refine Thn_n ?_
  refine hK _ _ ?_
  clear hK K
  refine AW.seq_k fun K hK => ?_
  refine AW.seq_k fun K hK => ?_
  refine AW.region (by decide) ?_
  simp only [push_cast, Nat.reduceAdd, Nat.reduceMul, Nat.reduceSub, Nat.reduceLeDiff, Nat.reduceLT, Nat.reduceEqDiff, Nat.reduceBEq, Nat.reduceBNe, Nat.reduceMod, Nat.reduceDiv, Int.reduceLE, Int.reduceLT, Int.reduceToNat, Int.reduceAdd, Int.reduceSub, Int.reduceMul, Int.reduceNeg, Int.reduceEq, Int.reduceBEq, Int.reduceBNe, ↓reduceIte, reduceCtorEq, String.reduceBNe, String.reduceEq, reduceDIte, Nat.reducePow, hrd, drB, h, h1]
  refine Thn_n ?_
  refine hK _ _ ?_
  clear hK K
  refine AW.cond_t rfl ?_
  refine AW.seq_k fun K hK => ?_
  refine AW.region (by decide) ?_
  simp only [push_cast, Nat.reduceAdd, Nat.reduceMul, Nat.reduceSub, Nat.reduceLeDiff, Nat.reduceLT, Nat.reduceEqDiff, Nat.reduceBEq, Nat.reduceBNe, Nat.reduceMod, Nat.reduceDiv, Int.reduceLE, Int.reduceLT, Int.reduceToNat, Int.reduceAdd, Int.reduceSub, Int.reduceMul, Int.reduceNeg, Int.reduceEq, Int.reduceBEq, Int.reduceBNe, ↓reduceIte, reduceCtorEq, String.reduceBNe, String.reduceEq, reduceDIte, Nat.reducePow, hrd, drB, h, h1]
  refine Thn_n ?_
  refine hK _ _ ?_
  clear hK K
  refine AW.ret ?_
  refine Thn_r ?_
  refine hQ _ _ _ ?_
  first | refine RetP.drop0 (Or.inr rfl) ?_ ?_ hwf | refine RetP.drop (Or.inr rfl) ?_ ?_ hwf
  · simp only [resA, resOne, resTv, AV.tv, push_cast, Nat.reduceAdd, Nat.reduceMul, Nat.reduceSub, Nat.reduceLeDiff, Nat.reduceLT, Nat.reduceEqDiff, Nat.reduceBEq, Nat.reduceBNe, Nat.reduceMod, Nat.reduceDiv, Int.reduceLE, Int.reduceLT, Int.reduceToNat, Int.reduceAdd, Int.reduceSub, Int.reduceMul, Int.reduceNeg, Int.reduceEq, Int.reduceBEq, Int.reduceBNe, ↓reduceIte, reduceCtorEq, String.reduceBNe, String.reduceEq, reduceDIte, Nat.reducePow, hrd, drB, h, h1]
  · rfl
theorem in_hi (rd rs rm n : Nat) (D : DS) (x : Int) (m : AMem) (hrd : m[rd]? = some (drB rs rm n D)) (h : D.down = false) (h1 : ¬ x < 0) (h2 : (n : Int) ≤ x) : Ctr Try.prog 21 [.one (.ptr rd 0 0), .one (.int .i64 x)] m (.one (.int .i64 1)) m := by
  refine Ctr.enter Try.func21 rfl (by decide) (rs := [.tmp 4]) (nt := 22) rfl rfl fun hwf Q hQ => ?_
  refine AW.seq_k fun K hK => ?_
  refine AW.region (by decide) ?_
  simp only [push_cast, Nat.reduceAdd, Nat.reduceMul, Nat.reduceSub, Nat.reduceLeDiff, Nat.reduceLT, Nat.reduceEqDiff, Nat.reduceBEq, Nat.reduceBNe, Nat.reduceMod, Nat.reduceDiv, Int.reduceLE, Int.reduceLT, Int.reduceToNat, Int.reduceAdd, Int.reduceSub, Int.reduceMul, Int.reduceNeg, Int.reduceEq, Int.reduceBEq, Int.reduceBNe, ↓reduceIte, reduceCtorEq, String.reduceBNe, String.reduceEq, reduceDIte, Nat.reducePow, hrd, drB, h, h1, h2]
  refine Thn_n ?_
  refine hK _ _ ?_
  clear hK K
  refine AW.seq_k fun K hK => ?_
  refine AW.seq_k fun K hK => ?_
  refine AW.region (by decide) ?_
  simp only [push_cast, Nat.reduceAdd, Nat.reduceMul, Nat.reduceSub, Nat.reduceLeDiff, Nat.reduceLT, Nat.reduceEqDiff, Nat.reduceBEq, Nat.reduceBNe, Nat.reduceMod, Nat.reduceDiv, Int.reduceLE, Int.reduceLT, Int.reduceToNat, Int.reduceAdd, Int.reduceSub, Int.reduceMul, Int.reduceNeg, Int.reduceEq, Int.reduceBEq, Int.reduceBNe, ↓reduceIte, reduceCtorEq, String.reduceBNe, String.reduceEq, reduceDIte, Nat.reducePow, hrd, drB, h, h1, h2]
  refine CThen.by (up_ok rd rs rm n D _ hrd h) ?_
  simp only [push_cast, Nat.reduceAdd, Nat.reduceMul, Nat.reduceSub, Nat.reduceLeDiff, Nat.reduceLT, Nat.reduceEqDiff, Nat.reduceBEq, Nat.reduceBNe, Nat.reduceMod, Nat.reduceDiv, Int.reduceLE, Int.reduceLT, Int.reduceToNat, Int.reduceAdd, Int.reduceSub, Int.reduceMul, Int.reduceNeg, Int.reduceEq, Int.reduceBEq, Int.reduceBNe, ↓reduceIte, reduceCtorEq, String.reduceBNe, String.reduceEq, reduceDIte, Nat.reducePow, hrd, drB, h, h1, h2]
  refine Thn_n ?_
  refine hK _ _ ?_
  clear hK K
  refine AW.seq_k fun K hK => ?_
  refine AW.region (by decide) ?_
  simp only [push_cast, Nat.reduceAdd, Nat.reduceMul, Nat.reduceSub, Nat.reduceLeDiff, Nat.reduceLT, Nat.reduceEqDiff, Nat.reduceBEq, Nat.reduceBNe, Nat.reduceMod, Nat.reduceDiv, Int.reduceLE, Int.reduceLT, Int.reduceToNat, Int.reduceAdd, Int.reduceSub, Int.reduceMul, Int.reduceNeg, Int.reduceEq, Int.reduceBEq, Int.reduceBNe, ↓reduceIte, reduceCtorEq, String.reduceBNe, String.reduceEq, reduceDIte, Nat.reducePow, hrd, drB, h, h1, h2]
  refine Thn_n ?_
  refine hK _ _ ?_
  clear hK K
  refine AW.cond_f rfl ?_
  refine AW.skip ?_
  refine Thn_n ?_
  refine hK _ _ ?_
  clear hK K
  refine AW.seq_k fun K hK => ?_
  refine AW.seq_k fun K hK => ?_
  refine AW.region (by decide) ?_
  simp only [push_cast, Nat.reduceAdd, Nat.reduceMul, Nat.reduceSub, Nat.reduceLeDiff, Nat.reduceLT, Nat.reduceEqDiff, Nat.reduceBEq, Nat.reduceBNe, Nat.reduceMod, Nat.reduceDiv, Int.reduceLE, Int.reduceLT, Int.reduceToNat, Int.reduceAdd, Int.reduceSub, Int.reduceMul, Int.reduceNeg, Int.reduceEq, Int.reduceBEq, Int.reduceBNe, ↓reduceIte, reduceCtorEq, String.reduceBNe, String.reduceEq, reduceDIte, Nat.reducePow, hrd, drB, h, h1, h2]
  refine Thn_n ?_
  refine hK _ _ ?_
  clear hK K
  refine AW.cond_t rfl ?_
  refine AW.seq_k fun K hK => ?_
  refine AW.region (by decide) ?_
  simp only [push_cast, Nat.reduceAdd, Nat.reduceMul, Nat.reduceSub, Nat.reduceLeDiff, Nat.reduceLT, Nat.reduceEqDiff, Nat.reduceBEq, Nat.reduceBNe, Nat.reduceMod, Nat.reduceDiv, Int.reduceLE, Int.reduceLT, Int.reduceToNat, Int.reduceAdd, Int.reduceSub, Int.reduceMul, Int.reduceNeg, Int.reduceEq, Int.reduceBEq, Int.reduceBNe, ↓reduceIte, reduceCtorEq, String.reduceBNe, String.reduceEq, reduceDIte, Nat.reducePow, hrd, drB, h, h1, h2]
  refine Thn_n ?_
  refine hK _ _ ?_
  clear hK K
  refine AW.ret ?_
  refine Thn_r ?_
  refine hQ _ _ _ ?_
  first | refine RetP.drop0 (Or.inr rfl) ?_ ?_ hwf | refine RetP.drop (Or.inr rfl) ?_ ?_ hwf
  · simp only [resA, resOne, resTv, AV.tv, push_cast, Nat.reduceAdd, Nat.reduceMul, Nat.reduceSub, Nat.reduceLeDiff, Nat.reduceLT, Nat.reduceEqDiff, Nat.reduceBEq, Nat.reduceBNe, Nat.reduceMod, Nat.reduceDiv, Int.reduceLE, Int.reduceLT, Int.reduceToNat, Int.reduceAdd, Int.reduceSub, Int.reduceMul, Int.reduceNeg, Int.reduceEq, Int.reduceBEq, Int.reduceBNe, ↓reduceIte, reduceCtorEq, String.reduceBNe, String.reduceEq, reduceDIte, Nat.reducePow, hrd, drB, h, h1, h2]
  · rfl
theorem in_ok (rd rs rm n : Nat) (D : DS) (x : Int) (m : AMem) (hrd : m[rd]? = some (drB rs rm n D)) (h : D.down = false) (h1 : ¬ x < 0) (h2 : ¬ (n : Int) ≤ x) : Ctr Try.prog 21 [.one (.ptr rd 0 0), .one (.int .i64 x)] m (.one (.int .i64 0)) m := by
  refine Ctr.enter Try.func21 rfl (by decide) (rs := [.tmp 4]) (nt := 22) rfl rfl fun hwf Q hQ => ?_
  refine AW.seq_k fun K hK => ?_
  refine AW.region (by decide) ?_
  simp only [push_cast, Nat.reduceAdd, Nat.reduceMul, Nat.reduceSub, Nat.reduceLeDiff, Nat.reduceLT, Nat.reduceEqDiff, Nat.reduceBEq, Nat.reduceBNe, Nat.reduceMod, Nat.reduceDiv, Int.reduceLE, Int.reduceLT, Int.reduceToNat, Int.reduceAdd, Int.reduceSub, Int.reduceMul, Int.reduceNeg, Int.reduceEq, Int.reduceBEq, Int.reduceBNe, ↓reduceIte, reduceCtorEq, String.reduceBNe, String.reduceEq, reduceDIte, Nat.reducePow, hrd, drB, h, h1, h2]
  refine Thn_n ?_
  refine hK _ _ ?_
  clear hK K
  refine AW.seq_k fun K hK => ?_
  refine AW.seq_k fun K hK => ?_
  refine AW.region (by decide) ?_
  simp only [push_cast, Nat.reduceAdd, Nat.reduceMul, Nat.reduceSub, Nat.reduceLeDiff, Nat.reduceLT, Nat.reduceEqDiff, Nat.reduceBEq, Nat.reduceBNe, Nat.reduceMod, Nat.reduceDiv, Int.reduceLE, Int.reduceLT, Int.reduceToNat, Int.reduceAdd, Int.reduceSub, Int.reduceMul, Int.reduceNeg, Int.reduceEq, Int.reduceBEq, Int.reduceBNe, ↓reduceIte, reduceCtorEq, String.reduceBNe, String.reduceEq, reduceDIte, Nat.reducePow, hrd, drB, h, h1, h2]
  refine CThen.by (up_ok rd rs rm n D _ hrd h) ?_
  simp only [push_cast, Nat.reduceAdd, Nat.reduceMul, Nat.reduceSub, Nat.reduceLeDiff, Nat.reduceLT, Nat.reduceEqDiff, Nat.reduceBEq, Nat.reduceBNe, Nat.reduceMod, Nat.reduceDiv, Int.reduceLE, Int.reduceLT, Int.reduceToNat, Int.reduceAdd, Int.reduceSub, Int.reduceMul, Int.reduceNeg, Int.reduceEq, Int.reduceBEq, Int.reduceBNe, ↓reduceIte, reduceCtorEq, String.reduceBNe, String.reduceEq, reduceDIte, Nat.reducePow, hrd, drB, h, h1, h2]
  refine Thn_n ?_
  refine hK _ _ ?_
  clear hK K
  iterate 2
    refine AW.seq_k fun K hK => ?_
    refine AW.region (by decide) ?_
    simp only [push_cast, Nat.reduceAdd, Nat.reduceMul, Nat.reduceSub, Nat.reduceLeDiff, Nat.reduceLT, Nat.reduceEqDiff, Nat.reduceBEq, Nat.reduceBNe, Nat.reduceMod, Nat.reduceDiv, Int.reduceLE, Int.reduceLT, Int.reduceToNat, Int.reduceAdd, Int.reduceSub, Int.reduceMul, Int.reduceNeg, Int.reduceEq, Int.reduceBEq, Int.reduceBNe, ↓reduceIte, reduceCtorEq, String.reduceBNe, String.reduceEq, reduceDIte, Nat.reducePow, hrd, drB, h, h1, h2]
    refine Thn_n ?_
    refine hK _ _ ?_
    clear hK K
    refine AW.cond_f rfl ?_
    refine AW.skip ?_
    refine Thn_n ?_
    refine hK _ _ ?_
    clear hK K
    refine AW.seq_k fun K hK => ?_
  refine AW.region (by decide) ?_
  simp only [push_cast, Nat.reduceAdd, Nat.reduceMul, Nat.reduceSub, Nat.reduceLeDiff, Nat.reduceLT, Nat.reduceEqDiff, Nat.reduceBEq, Nat.reduceBNe, Nat.reduceMod, Nat.reduceDiv, Int.reduceLE, Int.reduceLT, Int.reduceToNat, Int.reduceAdd, Int.reduceSub, Int.reduceMul, Int.reduceNeg, Int.reduceEq, Int.reduceBEq, Int.reduceBNe, ↓reduceIte, reduceCtorEq, String.reduceBNe, String.reduceEq, reduceDIte, Nat.reducePow, hrd, drB, h, h1, h2]
  refine Thn_n ?_
  refine hK _ _ ?_
  clear hK K
  refine AW.ret ?_
  refine hQ _ _ _ ?_
  first | refine RetP.drop0 (Or.inr rfl) ?_ ?_ hwf | refine RetP.drop (Or.inr rfl) ?_ ?_ hwf
  · simp only [resA, resOne, resTv, AV.tv, push_cast, Nat.reduceAdd, Nat.reduceMul, Nat.reduceSub, Nat.reduceLeDiff, Nat.reduceLT, Nat.reduceEqDiff, Nat.reduceBEq, Nat.reduceBNe, Nat.reduceMod, Nat.reduceDiv, Int.reduceLE, Int.reduceLT, Int.reduceToNat, Int.reduceAdd, Int.reduceSub, Int.reduceMul, Int.reduceNeg, Int.reduceEq, Int.reduceBEq, Int.reduceBNe, ↓reduceIte, reduceCtorEq, String.reduceBNe, String.reduceEq, reduceDIte, Nat.reducePow, hrd, drB, h, h1, h2]
  · rfl
end Go.Proofs.Ytcahlnddcjifdaa
