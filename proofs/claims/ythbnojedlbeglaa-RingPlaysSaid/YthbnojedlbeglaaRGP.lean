/-
  Contracts by plain functions: astrolabelaw13.RingPlays
-/
import Derived.Test.YthbnojedlbeglaaRG9
import Derived.Test.YthbnojedlbeglaaRG3
set_option maxRecDepth 100000
set_option maxHeartbeats 4000000
set_option linter.unusedVariables false
namespace Go.Proofs.Ythbnojedlbeglaa
open Go.Ab
abbrev RGPt0 := Int × Int × Int × Int × Int × Int × Nat × Bool × Int
abbrev RGPt1 := Bool × Int × Int × Int × Int × Int × Int × Nat × Int × NI × NI × NI × NI × NI × NI × NI × NI × NI
abbrev RGPt2 := Int × Nat × Bool × Int × Int × Int × Int × Int × Int
abbrev RGPt3 := Bool × Int × Nat × Int × Int × Int × Int × Int × Int × Nat × NI × NI × NI × NI × NI × NI × NI × NI × NI
abbrev RGPt4 := Nat × Int × Nat × Nat × Bool × Int × Int × Int × Int × Int × Int × Nat × NI × NI × NI × NI × NI × NI × NI × NI × NI
abbrev RGPt5 := Int × Int × Int × Int × Int × Int × Int × Int × Int × Bool
abbrev RGPt6 := NI × Bool × Int × Int × Int × Int × Int × Int × Nat × Int × Int × Nat × Nat × Bool × Int × Int × Int × Int × Int × Int × Nat × NI × NI × NI × NI × NI × NI × NI × NI × NI × Nat × NI × NI × NI × NI × NI × NI × NI × NI × NI × Nat × NI × NI × NI × NI × NI × NI × NI × NI × NI × Nat × NI × NI × NI × NI × NI × NI × NI × NI × NI
abbrev RGPt7 := Nat × NI × NI × NI × NI × NI × NI × NI × NI × NI
abbrev RGPg8 := Int → Int → Int → Int → Int → Int → Int → Int → Int → Int → Int → Int → Int → Int → Int → Nat → Int → NI → NI → NI → NI → NI → NI → NI → NI → NI → Bool → Option (RGPt0 ⊕ RGPt1)
abbrev RGPg9 := Int → Int → Int → Int → Int → Int → Int → Int → Int → Int → Nat → Int → Int → Int → Int → Int → Int → NI → NI → NI → NI → NI → NI → NI → NI → NI → Bool → Option (RGPt2 ⊕ RGPt3 ⊕ Int × Nat × Int × Int × Int × Int × Int × Int × NI × (Nat → Int) × NI × NI × NI × NI × NI × NI × NI)
abbrev RGPg10 := Int → Int → Int → Int → Int → Int → Int → Nat → Int → NI → NI → NI → NI → NI → NI → NI → NI → (Nat → Int) → Bool → Option (Nat × Int × Int × Int × Int × Int × Int × Nat × Int × NI × NI × NI × NI × NI × NI × NI × NI × NI × NI × NI × NI × NI × NI × NI × NI × (Nat → Int) × NI)
abbrev RGPg11 := Int → Int → Nat → Int → Int → Int → Int → Int → Int → NI → NI → NI → NI → NI → NI → NI → NI → NI → Bool → Option (RGPt4)
abbrev RGPg12 := Int → Int → Int → Int → Int → Int → Nat → Int → NI → NI → NI → NI → NI → NI → (Nat → Int) → NI → NI → Bool → Option (RGPt0)
abbrev RGPg13 := Int → Nat → Int → Int → Int → Int → Int → Int → NI → NI → NI → NI → NI → NI → NI → NI → NI → Bool → Option (RGPt2)
abbrev RGPg14 := Int → Int → Int → Int → Int → Int → Nat → Int → NI → NI → NI → NI → NI → NI → NI → NI → NI → Bool → Option (RGPt5)
abbrev RGPg15 := Int → Int → Int → Int → Int → Int → Nat → Int → NI → NI → NI → NI → NI → NI → NI → NI → NI → Bool → Option Int
abbrev RGPt16 := Nat × NI × NI × NI × NI × NI × NI × NI × NI × NI × Nat × NI × NI × NI × NI × NI × NI × NI × NI × NI × Nat × NI × NI × NI × NI × NI × NI × NI × NI × NI
abbrev RGPt17 := NI × NI × Nat × NI × NI × NI × NI × NI × NI × NI × NI × NI
abbrev RGPt18 := Nat × NI × NI × NI × NI × NI × NI × NI × NI × NI × NI × Int × Nat × Nat × Int × Nat × NI × NI × NI × NI × NI × NI × NI × NI × NI × NI × Bool × Int × Bool × Int × Int × Int × Int × Int × Int × Nat × Int × Int × Nat × Nat × Bool × Int × Int × Int × Int × Int × Int × Nat × NI × NI × NI × NI × NI × NI × NI × NI × NI × Nat × NI × NI × NI × NI × NI × NI × NI × NI × NI × Nat × NI × NI × NI × NI × NI × NI × NI × NI × NI × Nat × NI × NI × NI × NI × NI × NI × NI × NI × NI
abbrev RGPg19 := Int → Int → Int → Int → Int → Int → Int → Int → Int → Int → Int → Int → Int → Int → Int → Nat → Int → NI → NI → (Nat → Int) → NI → NI → NI → NI → NI → NI → Bool → Option (RGPt0 ⊕ Bool × Int × Int × Int × Int × Int × Int × Nat × Int × NI × NI × NI × NI × NI × NI × (Nat → Int) × NI × NI)
abbrev RGPt20 := NI × NI × NI × NI × NI × NI × NI × NI
abbrev RGPt21 := NI × NI × NI × NI × Nat × NI × NI × NI × NI × NI × NI × NI × NI × NI
abbrev RGPt22 := NI × NI × NI × NI × Bool × Int × Int × Int × Int × Int × Int × Int × Int × Int × Int × Int × Int × Int × Int × Int × Int × Int × Int × Int × Bool × Int × Nat × Nat × Bool × Int × Bool × Int × Int × Bool × Bool × Bool × Int × Int × Int × Bool × Int × Nat × Bool × Int × Int × Nat × NI × NI × NI × NI × NI × NI × NI × NI × NI × Nat × NI × NI × NI × NI × NI × NI × NI × NI × NI
abbrev RGPt23 := NI × NI × NI × Bool × Int × Int × Int × Int × Int × Int × Nat × Bool × Int × Int × Nat × Nat × Bool × Int × Int × Int × Int × Int × Int × Nat × NI × NI × NI × NI × NI × NI × NI × NI × NI × Nat × NI × NI × NI × NI × NI × NI × NI × NI × NI
abbrev RGPt24 := NI × NI × NI × NI × NI × NI × NI × NI × Bool × Int × Int × Int × Int × Int × Int × Int × Int × Int × Int × Int × Int × Int × Int × Int × Int × Int × Int × Int × Bool × Int × Nat × Nat × Bool × Int × Bool × Int × Int × Bool × Bool × Bool × Int × Int × Int × Bool × Int × Nat × Bool × Int × Int × Nat × NI × NI × NI × NI × NI × NI × NI × NI × NI × Nat × NI × NI × NI × NI × NI × NI × NI × NI × NI
abbrev RGPt25 := Nat × NI × NI × NI × NI × NI × NI × NI × NI × NI × NI × Int × Nat × NI × NI × NI × NI × NI × NI × NI × NI × NI × NI × Bool × Int × Int × Int × Int × Int × Int × Nat × Bool × Int × Int × Nat × Nat × Bool × Int × Int × Int × Int × Int × Int × Nat × NI × NI × NI × NI × NI × NI × NI × NI × NI × Nat × NI × NI × NI × NI × NI × NI × NI × NI × NI
abbrev RGPt26 := Nat × NI × NI × NI × NI × NI × NI × NI × NI × NI × NI × Int × Bool × Nat × NI × NI × NI × NI × NI × NI × NI × NI × NI × NI × Bool × Int × Int × Int × Int × Int × Int × Int × Int × Int × Int × Int × Int × Int × Int × Int × Int × Int × Int × Int × Bool × Int × Nat × Nat × Bool × Int × Bool × Int × Int × Bool × Bool × Bool × Int × Int × Int × Int × Int × Int × Int × Int × Int × Bool × Int × Int × Int × Bool × Int × Nat × Bool × Int × Int × Nat × NI × NI × NI × NI × NI × NI × NI × NI × NI × Nat × NI × NI × NI × NI × NI × NI × NI × NI × NI
abbrev RGPt27 := NI × Nat × NI × NI × NI × NI × NI × NI × NI × NI × NI
abbrev RGPt28 := NI × NI × NI × NI × NI × NI × NI × Int × Nat × Nat × Int × Nat × NI × NI × NI × NI × NI × NI × NI × NI × NI × NI × Bool × Int × Int × Int × Int × Int × Int × Nat × Int × Int × Nat × Nat × Bool × Int × Int × Int × Int × Int × Int × Nat × NI × NI × NI × NI × NI × NI × NI × NI × NI × Nat × NI × NI × NI × NI × NI × NI × NI × NI × NI × Nat × NI × NI × NI × NI × NI × NI × NI × NI × NI × Nat × NI × NI × NI × NI × NI × NI × NI × NI × NI
abbrev RGPt29 := NI × Bool × Int × Bool × Int × Int × Int × Int × Int × Int × Nat × Int × Int × Nat × Nat × Bool × Int × Int × Int × Int × Int × Int × Nat × NI × NI × NI × NI × NI × NI × NI × NI × NI × Nat × NI × NI × NI × NI × NI × NI × NI × NI × NI × Nat × NI × NI × NI × NI × NI × NI × NI × NI × NI × Nat × NI × NI × NI × NI × NI × NI × NI × NI × NI
abbrev RGPt30 := NI × NI × NI × Nat × NI × NI × NI × NI × NI × NI × NI × NI × NI
abbrev RGPt31 := NI × NI × NI × NI × NI × NI × NI × Nat × NI × NI × NI × NI × NI × NI × NI × NI × NI
abbrev RGPt32 := NI × NI × NI × NI × NI × NI × NI × Int × Int × Bool × Int × Int × Int × Int × Int × Int × Nat × Bool × Int × Int × Nat × Nat × Bool × Int × Int × Int × Int × Int × Int × Nat × NI × NI × NI × NI × NI × NI × NI × NI × NI × Nat × NI × NI × NI × NI × NI × NI × NI × NI × NI
abbrev RGPt33 := NI × NI × NI × NI × NI × Nat × NI × NI × NI × NI × NI × NI × NI × NI × NI
abbrev RGPt34 := Int × Nat × Int × Int × Int × Int × Int × Int × NI × NI × NI × NI × NI × NI × NI × NI × NI
abbrev RGPt35 := Nat × Int × Int × Int × Int × Int × Int × Nat × Int × NI × NI × NI × NI × NI × NI × NI × NI × NI × NI × NI × NI × NI × NI × NI × NI × NI × NI
abbrev RGPt36 := NI × NI × NI × Int × Nat × Nat × Int × Nat × NI × NI × NI × NI × NI × NI × NI × NI × NI × NI × Bool × Int × Bool × Int × Int × Int × Int × Int × Int × Nat × Int × Int × Nat × Nat × Bool × Int × Int × Int × Int × Int × Int × Nat × NI × NI × NI × NI × NI × NI × NI × NI × NI × Nat × NI × NI × NI × NI × NI × NI × NI × NI × NI × Nat × NI × NI × NI × NI × NI × NI × NI × NI × NI × Nat × NI × NI × NI × NI × NI × NI × NI × NI × NI
abbrev RGPt37 := Nat × NI × NI × NI × NI × NI × NI × NI × NI × NI × NI × Int × Int × Int × Int × Int × Int × Int × Nat × Bool × Int × Int × Nat × Nat × Bool × Int × Int × Int × Int × Int × Int × Nat × NI × NI × NI × NI × NI × NI × NI × NI × NI × Nat × NI × NI × NI × NI × NI × NI × NI × NI × NI
abbrev RGPt38 := NI × NI × NI × NI × NI × NI × NI × NI × NI × Int × Int × Bool × Int × Int × Int × Int × Int × Int × Nat × Bool × Int × Int × Nat × Nat × Bool × Int × Int × Int × Int × Int × Int × Nat × NI × NI × NI × NI × NI × NI × NI × NI × NI × Nat × NI × NI × NI × NI × NI × NI × NI × NI × NI
abbrev RGPt39 := Nat × NI × NI × NI × NI × NI × NI × NI × NI × NI × NI × Int × Nat × Nat × Int × Nat × NI × NI × NI × NI × NI × NI × NI × NI × NI × NI × Bool × Int × Int × Int × Int × Int × Int × Nat × Int × Int × Nat × Nat × Bool × Int × Int × Int × Int × Int × Int × Nat × NI × NI × NI × NI × NI × NI × NI × NI × NI × Nat × NI × NI × NI × NI × NI × NI × NI × NI × NI × Nat × NI × NI × NI × NI × NI × NI × NI × NI × NI × Nat × NI × NI × NI × NI × NI × NI × NI × NI × NI
abbrev RGPt40 := Nat × NI × NI × NI × NI × NI × NI × NI × NI × NI × Nat × NI × NI × NI × NI × NI × NI × NI × NI × NI
abbrev RGPt41 := NI × NI × NI × NI × NI × Bool × Int × Int × Int × Int × Int × Int × Int × Int × Int × Int × Int × Int × Int × Int × Int × Int × Int × Int × Int × Bool × Int × Nat × Nat × Bool × Int × Bool × Int × Int × Bool × Bool × Bool × Int × Int × Int × Bool × Int × Nat × Bool × Int × Int × Nat × NI × NI × NI × NI × NI × NI × NI × NI × NI × Nat × NI × NI × NI × NI × NI × NI × NI × NI × NI
abbrev RGPt42 := Nat × NI × NI × NI × NI × NI × NI × NI × NI × NI × NI × Int × Int × Bool × Int × Int × Int × Int × Int × Int × Nat × Bool × Int × Int × Nat × Nat × Bool × Int × Int × Int × Int × Int × Int × Nat × NI × NI × NI × NI × NI × NI × NI × NI × NI × Nat × NI × NI × NI × NI × NI × NI × NI × NI × NI
abbrev RGPt43 := Bool × Int × Int × Int × Int × Int × Int × Nat × Int × Int × Nat × Nat × Bool × Int × Int × Int × Int × Int × Int × Nat × NI × NI × NI × NI × NI × NI × NI × NI × NI × Nat × NI × NI × NI × NI × NI × NI × NI × NI × NI × Nat × NI × NI × NI × NI × NI × NI × NI × NI × NI × Nat × NI × NI × NI × NI × NI × NI × NI × NI × NI
abbrev RGPt44 := NI × NI × NI × NI × NI × NI × Nat × NI × NI × NI × NI × NI × NI × NI × NI × NI
abbrev RGPt45 := Bool × Int × Bool × Int × Int × Int × Int × Int × Int × Nat × Int × Int × Nat × Nat × Bool × Int × Int × Int × Int × Int × Int × Nat × NI × NI × NI × NI × NI × NI × NI × NI × NI × Nat × NI × NI × NI × NI × NI × NI × NI × NI × NI × Nat × NI × NI × NI × NI × NI × NI × NI × NI × NI × Nat × NI × NI × NI × NI × NI × NI × NI × NI × NI
abbrev RGPg46 := Int → Int → Int → Int → Int → Int → Int → Int → Int → Int → Int → Int → Int → Int → Int → Nat → Int → NI → NI → NI → (Nat → Int) → NI → NI → NI → NI → NI → Bool → Option (RGPt0 ⊕ Bool × Int × Int × Int × Int × Int × Int × Nat × Int × NI × NI × NI × NI × NI × NI × NI × (Nat → Int) × NI)
abbrev RGPg47 := Int → Int → Int → Int → Int → Int → Int → Int → Int → Int → Nat → Int → Int → Int → Int → Int → Int → NI → NI → NI → NI → NI → NI → NI → NI → NI → Bool → Option (RGPt2 ⊕ RGPt3 ⊕ Int × Nat × Int × Int × Int × Int × Int × Int × NI × NI × (Nat → Int) × NI × NI × NI × NI × NI × NI)
abbrev RGPg48 := Int → Int → Int → Int → Int → Int → Int → Nat → Int → NI → NI → NI → NI → NI → NI → NI → NI → NI → Bool → Option (Nat × Int × Int × Int × Int × Int × Int × Nat × Int × NI × NI × NI × NI × NI × NI × NI × NI × NI × NI × NI × NI × NI × NI × NI × NI × NI × (Nat → Int))
abbrev RGPg49 := Int → Int → Nat → Int → Int → Int → Int → Int → Int → NI → NI → NI → NI → NI → NI → NI → NI → NI → Bool → Option (Nat × Int × Nat × Nat × Bool × Int × Int × Int × Int × Int × Int × Nat × (Nat → Int) × RGPt20)
abbrev RGPg50 := Int → Int → Int → Int → Int → Int → Nat → Int → NI → NI → NI → NI → NI → NI → NI → NI → NI → Bool → Option (RGPt0)
abbrev RGPt51 := NI × NI × NI × NI × NI × NI × NI × NI × NI × Bool × Int × Int × Int × Int × Int × Int × Nat × Bool × Int × Int × Nat × Nat × Bool × Int × Int × Int × Int × Int × Int × Nat × NI × NI × NI × NI × NI × NI × NI × NI × NI × Nat × NI × NI × NI × NI × NI × NI × NI × NI × NI
abbrev RGPt52 := Nat × NI × NI × NI × NI × NI × NI × NI × NI × NI × NI × Int × Bool × Nat × NI × NI × NI × NI × NI × NI × NI × NI × NI × NI × Bool × Int × Int × Int × Int × Int × Int × Int × Int × Int × Int × Int × Int × Int × Int × Int × Int × Int × Int × Int × Bool × Int × Nat × Nat × Bool × Int × Bool × Int × Int × Bool × Bool × Bool × Int × Int × Int × Bool × Int × Nat × Bool × Int × Int × Nat × NI × NI × NI × NI × NI × NI × NI × NI × NI × Nat × NI × NI × NI × NI × NI × NI × NI × NI × NI
abbrev RGPg53 := Int → Int → Int → Int → Int → Int → Int → Int → Int → Int → Nat → Int → Int → Int → Int → Int → Int → NI → NI → NI → NI → NI → NI → NI → NI → (Nat → Int) → Bool → Option (RGPt2 ⊕ RGPt3 ⊕ RGPt34)
abbrev RGPg54 := Int → Int → Int → Int → Int → Int → Int → Nat → Int → NI → NI → NI → NI → NI → NI → (Nat → Int) → NI → NI → Bool → Option (Nat × Int × Int × Int × Int × Int × Int × Nat × Int × NI × NI × NI × NI × NI × NI × NI × NI × NI × NI × NI × NI × NI × NI × (Nat → Int) × NI × NI × NI)
abbrev RGPg55 := Int → Nat → Int → Int → Int → Int → Int → Int → NI → NI → NI → NI → NI → NI → NI → (Nat → Int) → NI → Bool → Option (RGPt2)
def S_astrolabelaw13_RingPlays_1 {ρ : Type} (g_astrolabelaw13_awake : Option Bool) (g_ring_New : Int → Option (Unit ⊕ Int × NI)) (g___ring_Buffer__Put : RGPg8) (g_astrolaberef13_Put : RGPg9) (g___ring_Buffer__Pop : RGPg10) (g_astrolaberef13_Pop : RGPg11) (g___ring_Buffer__Spoilt : RGPg12) (g_astrolaberef13_Spoilt : RGPg13) (g___ring_Buffer__Peek : RGPg14) (g___ring_Buffer__Len : RGPg15) (g___ring_Buffer__Horizon : RGPg15) (g__ring_Counts__Total : Int → Int → Int → Int → Int → Option Int) (x0 : Nat) (x1 : Nat → Int) (x2 : Nat → Int) (x3 : Nat → Int) (x4 : Nat →
  Int) (x5 : Nat → Int) (x6 : Nat → Int) (x7 : Nat → Int) (x8 : Nat → Int) (x9 : Nat → Int) (x10 : Nat → Int) (x11 : Int) (x12 : Nat) (x13 : Nat) (x14 : Int) (x15 : Nat) (x16 : Nat → Int) (x17 : Nat → Int) (x18 : Nat → Int) (x19 : Nat → Int) (x20 : Nat → Int) (x21 : Nat → Int) (x22 : Nat → Int) (x23 : Nat →
  Int) (x24 : Nat → Int) (x25 : Nat → Int) (x26 : Bool) (x27 : Int) (x28 : Int) (x29 : Int) (x30 : Int) (x31 : Int) (x32 : Int) (x33 : Nat) (x34 : Int) (x35 : Int) (x36 : Nat) (x37 : Nat) (x38 : Bool) (x39 : Int) (x40 : Int) (x41 : Int) (x42 : Int) (x43 : Int) (x44 : Int) (x45 : Nat) (x46 : Nat → Int) (x47 : Nat →
  Int) (x48 : Nat → Int) (x49 : Nat → Int) (x50 : Nat → Int) (x51 : Nat → Int) (x52 : Nat → Int) (x53 : Nat → Int) (x54 : Nat → Int) (x55 : Nat) (x56 : Nat → Int) (x57 : Nat → Int) (x58 : Nat → Int) (x59 : Nat → Int) (x60 : Nat → Int) (x61 : Nat → Int) (x62 : Nat → Int) (x63 : Nat → Int) (x64 : Nat → Int) (x65 : Nat) (x66 : Nat →
  Int) (x67 : Nat → Int) (x68 : Nat → Int) (x69 : Nat → Int) (x70 : Nat → Int) (x71 : Nat → Int) (x72 : Nat → Int) (x73 : Nat → Int) (x74 : Nat → Int) (x75 : Nat) (x76 : Nat → Int) (x77 : Nat → Int) (x78 : Nat → Int) (x79 : Nat → Int) (x80 : Nat → Int) (x81 : Nat → Int) (x82 : Nat → Int) (x83 : Nat → Int) (x84 : Nat →
  Int) (c : (Nat × NI × NI × NI × NI × NI × NI × NI × NI × NI × NI × Int × Nat × Nat × Int × Nat × NI × NI × NI × NI × NI × NI × NI × NI × (Nat →
  Int) × RGPt6) → Option ρ) (x : (Unit ⊕ Nat × NI × NI × NI × NI × NI × NI × NI × NI × NI × NI × Int × Nat × Nat × Int × Nat × NI × NI × NI × (Nat →
  Int) × NI × NI × NI × NI × NI × NI × Bool × Int × Bool × Int × Int × Int × Int × Int × Int × Nat × Int × Int × Nat × Nat × Bool × Int × Int × Int × Int × Int × Int × Nat × NI × NI × NI × NI × NI × (Nat →
  Int) × NI × NI × NI × Nat × NI × NI × NI × NI × NI × NI × NI × NI × NI × Nat × NI × NI × NI × NI × NI × NI × NI × NI × (Nat →
  Int) × RGPt7) → Option ρ) : Option ρ := bif decide (x14 < Int.ofNat x12) then bif inR x14 x12 then bif inR x14 x13 then bif !(x46 (0 + Int.toNat x14) == x56 (0 + Int.toNat x14) && (x47 (0 + Int.toNat x14) == x57 (0 + Int.toNat x14) && (x48 (0 + Int.toNat x14) == x58 (0 + Int.toNat x14) && (x49 (0 + Int.toNat x14) == x59 (0 + Int.toNat x14) && (x50 (0 + Int.toNat x14) == x60 (0 + Int.toNat x14) && (x51 (0 + Int.toNat x14) == x61 (0 + Int.toNat x14) && (x52 (0 + Int.toNat x14) == x62 (0 + Int.toNat x14) && (x53 (0 + Int.toNat x14) == x63 (0 + Int.toNat x14) && (x54 (0 + Int.toNat x14) == x64 (0 + Int.toNat x14) && true))))))) && true)) then
  x (Sum.inl ()) else bif inR x14 x12 then bif true && Nat.ble (0 + (0 + Int.toNat x14) * 9 + 1) (x45 * 9 + 0) then c (x0, x1, x2, x3, x4, x5, x6, x7, x8, x9, x10, x11, x12, x13, IntKind.wrap IntKind.i64 (x14 + 1), x15, x16, x17, x18, x19, x20, x21, x22, x23, x24, x25, x26, x27, x28, x29, x30, x31, x32,
  x33, x34, x35, x36, x37, x38, x39, x40, x41, x42, x43, x44, x45, fun (j : Nat) => bif Nat.beq j (0 + Int.toNat x14) then 1152921504606846976 else x46 j, x47, x48, x49, x50, x51, x52, x53, x54, x55, x56, x57, x58, x59, x60, x61, x62, x63, x64, x65, x66, x67, x68, x69, x70, x71, x72, x73, x74, x75, x76,
  x77, x78, x79, x80, x81, x82, x83, x84) else none else none else none else none else x (Sum.inr (x0, x1, x2, x3, x4, x5, x6, x7, x8, x9, x10, x11, x12, x13, x14, x15, x16, x17, x18, x19, x20, x21, x22, x23, x24, x25, x26, Int.ofNat x12, decide (x14 < Int.ofNat x12), x27, x28, x29, x30, x31, x32, x33,
  x34, x35, x36, x37, x38, x39, x40, x41, x42, x43, x44, x45, x46, x47, x48, x49, x50, x51, x52, x53, x54, x55, x56, x57, x58, x59, x60, x61, x62, x63, x64, x65, x66, x67, x68, x69, x70, x71, x72, x73, x74, x75, x76, x77, x78, x79, x80, x81, x82, x83, x84))
section
open Go.Ab.Rdr
def Q_astrolabelaw13_RingPlays_1 := (st (cons aund (cons (ar (rc (cfs hole (nat 10) (cons (ki .i64 hole) (cons (ki .i64 hole) (cons (ki .i64 hole) (cons (ki .i64 hole) (cons (ki .i64 hole) (cons (ki .i64 hole) (cons (ki .i64 hole) (cons (ki .i64 hole) (cons (ki .i64 hole) (cons (ki .i64 hole) nil))))))))))))) (cons aund (cons aund (cons aund (cons (ar (rc (cptr (nat 0) (ok' (nat 0)) (nat 8)))) (cons aund (cons (ar (rc (cptr (nat 1) (ok' (nat 0)) (nat 8)))) (cons (ar (rc (cf (fi .i64 hole)))) (cons (ar (rc (csl (nat 2) (ox (nat 0) (nat 0) (nat 9)) (szs hole) (nat 9) (bool true)))) (cons (ar (rc (csl (nat 3) (ox (nat 0) (nat 0) (nat 9)) (szs hole) (nat 9) (bool true)))) (cons (ar (rc (cf (fi .i64 hole)))) (cons aund (cons aund (cons aund (cons aund (cons aund (cons aund (cons aund (cons aund (cons aund (cons aund (cons aund (cons aund (cons aund (cons aund (cons aund (cons aund (cons aund (cons aund (cons aund (cons (atup nil) (cons aund (cons aund (cons aund (cons aund (cons aund (cons aund (cons aund (cons aund (cons aund (cons (atup nil) (cons aund (cons aund (cons aund (cons aund (cons aund (cons aund (cons aund (cons aund (cons (ar (rc (cfs hole (nat 10) (cons (ki .i64 hole) (cons (ki .i64 hole) (cons (ki .i64 hole) (cons (ki .i64 hole) (cons (ki .i64 hole) (cons (ki .i64 hole) (cons (ki .i64 hole) (cons (ki .i64 hole) (cons (ki .i64 hole) (cons (ki .i64 hole) nil))))))))))))) (cons aund (cons aund (cons aund (cons aund (cons aund (cons aund (cons aund (cons aund (cons aund (cons (ar (rc (cf (fb hole)))) (cons aund (cons aund (cons aund (cons aund (cons aund (cons aund (cons aund (cons aund (cons aund (cons aund (cons aund (cons aund (cons aund (cons aund (cons aund (cons aund (cons aund (cons aund (cons aund (cons aund (cons aund (cons aund (cons aund (cons aund (cons aund (cons aund (cons aund (cons aund (cons aund (cons aund (cons aund (cons aund (cons aund (cons aund (cons aund (cons aund (cons aund (cons aund (cons aund (cons aund (cons aund (cons aund (cons aund (cons aund (cons aund (cons aund (cons aund (cons aund (cons aund (cons aund (cons aund (cons aund (cons aund (cons aund (cons aund (cons aund (cons aund (cons aund (cons aund (cons aund (cons aund (cons aund (cons aund (cons aund (cons aund (cons aund (cons aund (cons aund (cons aund (cons aund (cons aund (cons aund (cons aund (cons aund (cons aund (cons aund (cons aund (cons aund (cons aund (cons aund (cons aund (cons aund (cons aund (cons aund (cons aund (cons aund (cons aund (cons aund (cons aund (cons aund (cons aund (cons aund (cons aund (cons aund (cons aund (cons aund (cons aund (cons aund (cons aund (cons aund (cons aund (cons aund (cons aund (cons aund (cons aund (cons aund (cons aund (cons aund (cons aund (cons aund (cons aund (cons aund (cons aund (cons aund (cons aund (cons aund (cons aund (cons aund (cons aund (cons aund (cons aund (cons aund (cons aund (cons aund (cons aund (cons aund (cons aund (cons aund (cons aund (cons aund (cons aund (cons aund (cons aund (cons aund (cons aund (cons aund (cons aund (cons aund (cons aund (cons aund (cons aund (cons aund (cons aund (cons aund (cons aund (cons aund (cons aund (cons aund (cons aund (cons aund (cons aund nil)))))))))))))))))))))))))))))))))))))))))))))))))))))))))))))))))))))))))))))))))))))))))))))))))))))))))))))))))))))))))))))))))))))))))))))))))))))))))))))))))))))))))))))))))))))))))))))))))))))))))))))))))))) (cons (some' (cons (gc (cf (fi .i64 hole))) (cons (gc (cf (fi .i64 hole))) (cons (gc (cf (fi .i64 hole))) (cons (gc (cf (fi .i64 hole))) (cons (gc (cf (fi .i64 hole))) (cons (gc (cf (fi .i64 hole))) (cons (gc (csl (nat 4) (ox (nat 0) (nat 0) (nat 9)) (szs hole) (nat 9) (bool true))) (cons (gc (cf (fi .i64 hole))) nil))))))))) (cons (some' (cons (gc (cf (fi .i64 hole))) (cons (gc (csl (nat 5) (ox (nat 0) hole (nat 9)) (szs hole) (nat 9) hole)) (cons (gc (cf (fi .i64 hole))) (cons (gc (cf (fi .i64 hole))) (cons (gc (cf (fi .i64 hole))) (cons (gc (cf (fi .i64 hole))) (cons (gc (cf (fi .i64 hole))) (cons (gc (cf (fi .i64 hole))) nil))))))))) (cons (some' (cons (ga (szs hole) (cons (ki .i64 hole) (cons (ki .i64 hole) (cons (ki .i64 hole) (cons (ki .i64 hole) (cons (ki .i64 hole) (cons (ki .i64 hole) (cons (ki .i64 hole) (cons (ki .i64 hole) (cons (ki .i64 hole) nil)))))))))) nil)) (cons (some' (cons (ga (szs hole) (cons (ki .i64 hole) (cons (ki .i64 hole) (cons (ki .i64 hole) (cons (ki .i64 hole) (cons (ki .i64 hole) (cons (ki .i64 hole) (cons (ki .i64 hole) (cons (ki .i64 hole) (cons (ki .i64 hole) nil)))))))))) nil)) (cons (some' (cons (ga (szs hole) (cons (ki .i64 hole) (cons (ki .i64 hole) (cons (ki .i64 hole) (cons (ki .i64 hole) (cons (ki .i64 hole) (cons (ki .i64 hole) (cons (ki .i64 hole) (cons (ki .i64 hole) (cons (ki .i64 hole) nil)))))))))) nil)) (cons (some' (cons (ga (szs hole) (cons (ki .i64 hole) (cons (ki .i64 hole) (cons (ki .i64 hole) (cons (ki .i64 hole) (cons (ki .i64 hole) (cons (ki .i64 hole) (cons (ki .i64 hole) (cons (ki .i64 hole) (cons (ki .i64 hole) nil)))))))))) nil)) nil)))))) nil)
end
theorem q_astrolabelaw13_RingPlays_1 : ∀ b, (Q_astrolabelaw13_RingPlays_1).em b = St.mk [und, AV.r (RV.c (CV.fs b.1.2.1.1 10 [kI b.1.2.1.2.2.1, kI b.1.2.1.2.2.2.1, kI b.1.2.1.c4.1, kI b.1.2.1.c4.2.1, kI b.1.2.1.c4.2.2.1,
  kI b.1.2.1.c4.2.2.2.1, kI b.1.2.1.c8.1, kI b.1.2.1.c8.2.1, kI b.1.2.1.c8.2.2.1, kI b.1.2.1.c8.2.2.2.1])), und, und, und, AV.r (RV.c (CV.ptr 0 (Off.k 0) 8)), und,
  AV.r (RV.c (CV.ptr 1 (Off.k 0) 8)), AV.r (RV.c (fI b.1.c8.1)), AV.r (RV.c (CV.sl 2 (Off.x 0 0 9) (Sz.s b.1.c8.2.1.2.2.1) 9 true)), AV.r (RV.c (CV.sl 3 (Off.x 0 0 9) (Sz.s b.1.c8.2.2.1.2.2.1) 9 true)), AV.r (RV.c (fI b.1.c8.2.2.2.1)),
  und, und, und, und, und, und, und, und, und, und, und, und, und, und, und, und, und, und, und, AV.tup [], und, und, und, und, und, und, und, und, und, AV.tup [], und, und, und, und, und, und, und,
  und, AV.r (RV.c (CV.fs b.1.c16.c16.c16.2.2.1.1 10 [kI b.1.c16.c16.c16.2.2.1.2.2.1, kI b.1.c16.c16.c16.2.2.1.2.2.2.1,
  kI b.1.c16.c16.c16.2.2.1.c4.1, kI b.1.c16.c16.c16.2.2.1.c4.2.1, kI b.1.c16.c16.c16.2.2.1.c4.2.2.1,
  kI b.1.c16.c16.c16.2.2.1.c4.2.2.2.1, kI b.1.c16.c16.c16.2.2.1.c8.1, kI b.1.c16.c16.c16.2.2.1.c8.2.1,
  kI b.1.c16.c16.c16.2.2.1.c8.2.2.1, kI b.1.c16.c16.c16.2.2.1.c8.2.2.2.1])), und,
  und, und, und, und, und, und, und, und, AV.r (RV.c (CV.f (FV.b b.1.c16.c16.c16.c8.c4.1))), und, und, und, und, und, und, und, und, und, und, und,
  und, und, und, und, und, und, und, und, und, und, und, und, und, und, und, und, und, und, und, und, und, und, und, und, und, und, und, und, und, und, und, und, und, und, und, und, und, und,
  und, und, und, und, und, und, und, und, und, und, und, und, und, und, und, und, und, und, und, und, und, und, und, und, und, und, und, und, und, und, und, und, und, und, und, und, und, und,
  und, und, und, und, und, und, und, und, und, und, und, und, und, und, und, und, und, und, und, und, und, und, und, und, und, und, und, und, und, und, und, und, und, und, und, und, und, und,
  und, und, und, und, und, und, und, und, und, und, und, und, und, und, und, und, und, und, und, und, und, und, und, und, und, und] [some [Sg.c (fI b.2.1.1.1), Sg.c (fI b.2.1.1.2.1),
  Sg.c (fI b.2.1.1.2.2.1), Sg.c (fI b.2.1.1.2.2.2.1), Sg.c (fI b.2.1.1.c4.1), Sg.c (fI b.2.1.1.c4.2.1), Sg.c (CV.sl 4 (Off.x 0 0 9) (Sz.s b.2.1.1.c4.2.2.1.2.2.1) 9 true), Sg.c (fI b.2.1.1.c4.2.2.2.1)],
  some [Sg.c (fI b.2.1.2.1.1), Sg.c (CV.sl 5 (Off.x 0 b.2.1.2.1.2.1.2.1.2.1 9) (Sz.s b.2.1.2.1.2.1.2.2.1) 9 b.2.1.2.1.2.1.c4), Sg.c (fI b.2.1.2.1.2.2.1), Sg.c (fI b.2.1.2.1.2.2.2.1), Sg.c (fI b.2.1.2.1.c4.1),
  Sg.c (fI b.2.1.2.1.c4.2.1), Sg.c (fI b.2.1.2.1.c4.2.2.1), Sg.c (fI b.2.1.2.1.c4.2.2.2.1)], some [Sg.a (Sz.s b.2.1.2.2.1.1.1) [kI b.2.1.2.2.1.1.2.1, kI b.2.1.2.2.1.1.2.2.1, kI b.2.1.2.2.1.1.2.2.2.1,
  kI b.2.1.2.2.1.1.c4.1, kI b.2.1.2.2.1.1.c4.2.1, kI b.2.1.2.2.1.1.c4.2.2.1, kI b.2.1.2.2.1.1.c4.2.2.2.1, kI b.2.1.2.2.1.1.c8.1, kI b.2.1.2.2.1.1.c8.2.1]], some [Sg.a (Sz.s b.2.1.2.2.2.1.1.1) [kI b.2.1.2.2.2.1.1.2.1,
  kI b.2.1.2.2.2.1.1.2.2.1, kI b.2.1.2.2.2.1.1.2.2.2.1, kI b.2.1.2.2.2.1.1.c4.1, kI b.2.1.2.2.2.1.1.c4.2.1, kI b.2.1.2.2.2.1.1.c4.2.2.1, kI b.2.1.2.2.2.1.1.c4.2.2.2.1, kI b.2.1.2.2.2.1.1.c8.1,
  kI b.2.1.2.2.2.1.1.c8.2.1]], some [Sg.a (Sz.s b.2.1.c4.1.1.1) [kI b.2.1.c4.1.1.2.1, kI b.2.1.c4.1.1.2.2.1, kI b.2.1.c4.1.1.2.2.2.1, kI b.2.1.c4.1.1.c4.1, kI b.2.1.c4.1.1.c4.2.1,
  kI b.2.1.c4.1.1.c4.2.2.1, kI b.2.1.c4.1.1.c4.2.2.2.1, kI b.2.1.c4.1.1.c8.1, kI b.2.1.c4.1.1.c8.2.1]], some [Sg.a (Sz.s b.2.1.c4.2.1.1.1) [kI b.2.1.c4.2.1.1.2.1,
  kI b.2.1.c4.2.1.1.2.2.1, kI b.2.1.c4.2.1.1.2.2.2.1, kI b.2.1.c4.2.1.1.c4.1, kI b.2.1.c4.2.1.1.c4.2.1, kI b.2.1.c4.2.1.1.c4.2.2.1, kI b.2.1.c4.2.1.1.c4.2.2.2.1, kI b.2.1.c4.2.1.1.c8.1,
  kI b.2.1.c4.2.1.1.c8.2.1]]] [] := fun b => by kernel_rfl
def R_astrolabelaw13_RingPlays_1 (l : ∀ {ρ : Type}, (Nat × NI × NI × NI × NI × NI × NI × NI × NI × NI × NI × Int × Nat × Nat × Int × Nat × NI × NI × NI × NI × NI × (Nat →
  Int) × NI × NI × NI × NI × Bool × Int × Int × Int × Int × Int × Int × Nat × Int × Int × Nat × Nat × Bool × Int × Int × Int × Int × Int × Int × Nat × NI × NI × NI × NI × NI × NI × NI × NI × (Nat →
  Int) × RGPt16) → ((Unit ⊕ Nat × NI × NI × NI × NI × NI × NI × NI × NI × NI × NI × Int × Nat × Nat × Int × Nat × NI × (Nat →
  Int) × NI × NI × NI × NI × NI × NI × NI × NI × Bool × Int × Bool × Int × Int × Int × Int × Int × Int × Nat × Int × Int × Nat × Nat × Bool × Int × Int × Int × Int × Int × Int × Nat × NI × NI × NI × (Nat →
  Int) × NI × NI × NI × NI × NI × Nat × NI × NI × NI × NI × NI × NI × NI × NI × NI × Nat × NI × NI × NI × NI × NI × NI × (Nat →
  Int) × RGPt17) → Option ρ) → Option ρ) {ρ : Type} (s : St) (K : AX → St → Option ρ) : Option ρ := ((Q_astrolabelaw13_RingPlays_1).rd s).bind fun b => l (b.1.2.1.1,
  b.1.2.1.2.2.1, b.1.2.1.2.2.2.1, b.1.2.1.c4.1, b.1.2.1.c4.2.1, b.1.2.1.c4.2.2.1, b.1.2.1.c4.2.2.2.1, b.1.2.1.c8.1, b.1.2.1.c8.2.1, b.1.2.1.c8.2.2.1, b.1.2.1.c8.2.2.2.1, b.1.c8.1, b.1.c8.2.1.2.2.1, b.1.c8.2.2.1.2.2.1,
  b.1.c8.2.2.2.1, b.1.c16.c16.c16.2.2.1.1, b.1.c16.c16.c16.2.2.1.2.2.1, b.1.c16.c16.c16.2.2.1.2.2.2.1,
  b.1.c16.c16.c16.2.2.1.c4.1, b.1.c16.c16.c16.2.2.1.c4.2.1, b.1.c16.c16.c16.2.2.1.c4.2.2.1,
  b.1.c16.c16.c16.2.2.1.c4.2.2.2.1, b.1.c16.c16.c16.2.2.1.c8.1, b.1.c16.c16.c16.2.2.1.c8.2.1,
  b.1.c16.c16.c16.2.2.1.c8.2.2.1, b.1.c16.c16.c16.2.2.1.c8.2.2.2.1, b.1.c16.c16.c16.c8.c4.1,
  b.2.1.1.1, b.2.1.1.2.1, b.2.1.1.2.2.1, b.2.1.1.2.2.2.1, b.2.1.1.c4.1, b.2.1.1.c4.2.1, b.2.1.1.c4.2.2.1.2.2.1, b.2.1.1.c4.2.2.2.1, b.2.1.2.1.1, b.2.1.2.1.2.1.2.1.2.1, b.2.1.2.1.2.1.2.2.1, b.2.1.2.1.2.1.c4, b.2.1.2.1.2.2.1, b.2.1.2.1.2.2.2.1, b.2.1.2.1.c4.1, b.2.1.2.1.c4.2.1,
  b.2.1.2.1.c4.2.2.1, b.2.1.2.1.c4.2.2.2.1, b.2.1.2.2.1.1.1, b.2.1.2.2.1.1.2.1, b.2.1.2.2.1.1.2.2.1, b.2.1.2.2.1.1.2.2.2.1, b.2.1.2.2.1.1.c4.1, b.2.1.2.2.1.1.c4.2.1, b.2.1.2.2.1.1.c4.2.2.1, b.2.1.2.2.1.1.c4.2.2.2.1, b.2.1.2.2.1.1.c8.1, b.2.1.2.2.1.1.c8.2.1,
  b.2.1.2.2.2.1.1.1, b.2.1.2.2.2.1.1.2.1, b.2.1.2.2.2.1.1.2.2.1, b.2.1.2.2.2.1.1.2.2.2.1, b.2.1.2.2.2.1.1.c4.1, b.2.1.2.2.2.1.1.c4.2.1, b.2.1.2.2.2.1.1.c4.2.2.1, b.2.1.2.2.2.1.1.c4.2.2.2.1, b.2.1.2.2.2.1.1.c8.1, b.2.1.2.2.2.1.1.c8.2.1, b.2.1.c4.1.1.1,
  b.2.1.c4.1.1.2.1, b.2.1.c4.1.1.2.2.1, b.2.1.c4.1.1.2.2.2.1, b.2.1.c4.1.1.c4.1, b.2.1.c4.1.1.c4.2.1, b.2.1.c4.1.1.c4.2.2.1, b.2.1.c4.1.1.c4.2.2.2.1, b.2.1.c4.1.1.c8.1, b.2.1.c4.1.1.c8.2.1, b.2.1.c4.2.1.1.1,
  b.2.1.c4.2.1.1.2.1, b.2.1.c4.2.1.1.2.2.1, b.2.1.c4.2.1.1.2.2.2.1, b.2.1.c4.2.1.1.c4.1, b.2.1.c4.2.1.1.c4.2.1, b.2.1.c4.2.1.1.c4.2.2.1, b.2.1.c4.2.1.1.c4.2.2.2.1, b.2.1.c4.2.1.1.c8.1, b.2.1.c4.2.1.1.c8.2.1) (Sum.elim (fun d => K (AX.ret) (St.mk [und,
  und, und, und, AV.r (RV.c (CV.f (FV.b false))), und, und, und, und, und, und, und, und, und, und, und, und, und, und, und, und, und, und, und, und, und, und, und, und, und, und, und, und, und, und, und,
  und, und, und, und, und, und, und, und, und, und, und, und, und, und, und, und, und, und, und, und, und, und, und, und, und, und, und, und, und, und, und, und, und, und, und, und, und, und,
  und, und, und, und, und, und, und, und, und, und, und, und, und, und, und, und, und, und, und, und, und, und, und, und, und, und, und, und, und, und, und, und, und, und, und, und, und, und,
  und, und, und, und, und, und, und, und, und, und, und, und, und, und, und, und, und, und, und, und, und, und, und, und, und, und, und, und, und, und, und, und, und, und, und, und, und, und,
  und, und, und, und, und, und, und, und, und, und, und, und, und, und, und, und, und, und, und, und, und, und, und, und, und, und, und, und, und, und, und, und, und, und, und, und, und, und,
  und, und, und, und, und, und, und, und, und, und, und, und, und, und, und, und, und, und, und, und, und, und, und, und] [] [])) (fun d => K (AX.ex 3) (St.mk [und, AV.r (RV.c (CV.fs d.1 10 [kI d.2.1, kI d.2.2.1,
  kI d.2.2.2.1, kI d.c4.1, kI d.c4.2.1, kI d.c4.2.2.1, kI d.c4.2.2.2.1, kI d.c8.1, kI d.c8.2.1,
  kI d.c8.2.2.1])), und, und, und, AV.r (RV.c (CV.ptr 0 (Off.k 0) 8)), und, AV.r (RV.c (CV.ptr 1 (Off.k 0) 8)), AV.r (RV.c (fI d.c8.2.2.2.1)), AV.r (RV.c (CV.sl 2 (Off.x 0 0 9) (Sz.s d.c8.c4.1) 9 true)),
  AV.r (RV.c (CV.sl 3 (Off.x 0 0 9) (Sz.s d.c8.c4.2.1) 9 true)), AV.r (RV.c (fI d.c8.c4.2.2.1)), und, und, und, und, und, und, und, und, und, und, und, und,
  und, und, und, und, und, und, und, AV.tup [], und, und, und, und, und, und, und, und, und, AV.tup [], und, und, und, und, und, und, und, und, AV.r (RV.c (CV.fs d.c8.c4.2.2.2.1 10 [kI d.c16.1,
  kI d.c16.2.1, kI d.c16.2.2.1, kI d.c16.2.2.2.1, kI d.c16.c4.1,
  kI d.c16.c4.2.1, kI d.c16.c4.2.2.1, kI d.c16.c4.2.2.2.1,
  kI d.c16.c8.1, kI d.c16.c8.2.1])), und, und, und, und, und, und, und,
  und, und, AV.r (RV.c (CV.f (FV.b d.c16.c8.2.2.1))), und, und, und, und, und, und, und, und, und, und, und, und, und, und, und, und, und, und, und,
  und, und, und, und, und, und, und, und, und, und, und, und, und, und, und, und, und, und, und, AV.r (RV.c (fI d.c8.c4.2.2.1)), AV.r (RV.c (CV.sl 2 (Off.x 0 0 9) (Sz.s d.c8.c4.1) 9 true)),
  AV.r (RV.c (fI d.c16.c8.2.2.2.1)), AV.r (RV.c (CV.f (FV.b d.c16.c8.c4.1))), und,
  und, und, und, und, und, und, und, und, und, und, und, und, und, und, und, und, und, und, und, und, und, und, und, und, und, und, und, und, und, und, und, und, und, und, und, und, und, und,
  und, und, und, und, und, und, und, und, und, und, und, und, und, und, und, und, und, und, und, und, und, und, und, und, und, und, und, und, und, und, und, und, und, und, und, und, und, und,
  und, und, und, und, und, und, und, und, und, und, und, und, und, und, und, und, und, und, und, und, und, und, und, und, und, und, und, und, und, und, und, und] [some [Sg.c (fI d.c16.c8.c4.2.1),
  Sg.c (fI d.c16.c8.c4.2.2.1), Sg.c (fI d.c16.c8.c4.2.2.2.1),
  Sg.c (fI d.c16.c16.1), Sg.c (fI d.c16.c16.2.1),
  Sg.c (fI d.c16.c16.2.2.1), Sg.c (CV.sl 4 (Off.x 0 0 9) (Sz.s d.c16.c16.2.2.2.1) 9 true),
  Sg.c (fI d.c16.c16.c4.1)], some [Sg.c (fI d.c16.c16.c4.2.1),
  Sg.c (CV.sl 5 (Off.x 0 d.c16.c16.c4.2.2.1 9) (Sz.s d.c16.c16.c4.2.2.2.1) 9 d.c16.c16.c8.1),
  Sg.c (fI d.c16.c16.c8.2.1), Sg.c (fI d.c16.c16.c8.2.2.1),
  Sg.c (fI d.c16.c16.c8.2.2.2.1), Sg.c (fI d.c16.c16.c8.c4.1),
  Sg.c (fI d.c16.c16.c8.c4.2.1), Sg.c (fI d.c16.c16.c8.c4.2.2.1)],
  some [Sg.a (Sz.s d.c16.c16.c8.c4.2.2.2.1) [kI d.c16.c16.c16.1,
  kI d.c16.c16.c16.2.1, kI d.c16.c16.c16.2.2.1,
  kI d.c16.c16.c16.2.2.2.1, kI d.c16.c16.c16.c4.1,
  kI d.c16.c16.c16.c4.2.1, kI d.c16.c16.c16.c4.2.2.1,
  kI d.c16.c16.c16.c4.2.2.2.1, kI d.c16.c16.c16.c8.1]],
  some [Sg.a (Sz.s d.c16.c16.c16.c8.2.1) [kI d.c16.c16.c16.c8.2.2.1,
  kI d.c16.c16.c16.c8.2.2.2.1, kI d.c16.c16.c16.c8.c4.1,
  kI d.c16.c16.c16.c8.c4.2.1, kI d.c16.c16.c16.c8.c4.2.2.1,
  kI d.c16.c16.c16.c8.c4.2.2.2.1, kI d.c16.c16.c16.c16.1,
  kI d.c16.c16.c16.c16.2.1, kI d.c16.c16.c16.c16.2.2.1]],
  some [Sg.a (Sz.s d.c16.c16.c16.c16.2.2.2.1) [kI d.c16.c16.c16.c16.c4.1,
  kI d.c16.c16.c16.c16.c4.2.1,
  kI d.c16.c16.c16.c16.c4.2.2.1,
  kI d.c16.c16.c16.c16.c4.2.2.2.1,
  kI d.c16.c16.c16.c16.c8.1,
  kI d.c16.c16.c16.c16.c8.2.1,
  kI d.c16.c16.c16.c16.c8.2.2.1,
  kI d.c16.c16.c16.c16.c8.2.2.2.1,
  kI d.c16.c16.c16.c16.c8.c4.1]],
  some [Sg.a (Sz.s d.c16.c16.c16.c16.c8.c4.2.1) [kI d.c16.c16.c16.c16.c8.c4.2.2.1,
  kI d.c16.c16.c16.c16.c8.c4.2.2.2.1,
  kI d.c16.c16.c16.c16.c16.1,
  kI d.c16.c16.c16.c16.c16.2.1,
  kI d.c16.c16.c16.c16.c16.2.2.1,
  kI d.c16.c16.c16.c16.c16.2.2.2.1,
  kI d.c16.c16.c16.c16.c16.c4.1,
  kI d.c16.c16.c16.c16.c16.c4.2.1,
  kI d.c16.c16.c16.c16.c16.c4.2.2]]] [])))
theorem ms_astrolabelaw13_RingPlays_1 {ρ σ : Type} (g_astrolabelaw13_awake : Option Bool) (g_ring_New : Int → Option (Unit ⊕ Int × NI)) (g___ring_Buffer__Put : RGPg19) (g_astrolaberef13_Put : RGPg9) (g___ring_Buffer__Pop : RGPg10) (g_astrolaberef13_Pop : RGPg11) (g___ring_Buffer__Spoilt : RGPg12) (g_astrolaberef13_Spoilt : RGPg13) (g___ring_Buffer__Peek : RGPg14) (g___ring_Buffer__Len : RGPg15) (g___ring_Buffer__Horizon : RGPg15) (g__ring_Counts__Total : Int → Int → Int → Int → Int → Option Int) (q : ρ → Option σ) (x0 : Nat) (x1 : Nat → Int) (x2 : Nat →
  Int) (x3 : Nat → Int) (x4 : Nat → Int) (x5 : Nat → Int) (x6 : Nat → Int) (x7 : Nat → Int) (x8 : Nat → Int) (x9 : Nat → Int) (x10 : Nat → Int) (x11 : Int) (x12 : Nat) (x13 : Nat) (x14 : Int) (x15 : Nat) (x16 : Nat → Int) (x17 : Nat → Int) (x18 : Nat → Int) (x19 : Nat → Int) (x20 : Nat → Int) (x21 : Nat →
  Int) (x22 : Nat → Int) (x23 : Nat → Int) (x24 : Nat → Int) (x25 : Nat → Int) (x26 : Bool) (x27 : Int) (x28 : Int) (x29 : Int) (x30 : Int) (x31 : Int) (x32 : Int) (x33 : Nat) (x34 : Int) (x35 : Int) (x36 : Nat) (x37 : Nat) (x38 : Bool) (x39 : Int) (x40 : Int) (x41 : Int) (x42 : Int) (x43 : Int) (x44 : Int) (x45 : Nat) (x46 : Nat →
  Int) (x47 : Nat → Int) (x48 : Nat → Int) (x49 : Nat → Int) (x50 : Nat → Int) (x51 : Nat → Int) (x52 : Nat → Int) (x53 : Nat → Int) (x54 : Nat → Int) (x55 : Nat) (x56 : Nat → Int) (x57 : Nat → Int) (x58 : Nat → Int) (x59 : Nat → Int) (x60 : Nat → Int) (x61 : Nat → Int) (x62 : Nat → Int) (x63 : Nat → Int) (x64 : Nat →
  Int) (x65 : Nat) (x66 : Nat → Int) (x67 : Nat → Int) (x68 : Nat → Int) (x69 : Nat → Int) (x70 : Nat → Int) (x71 : Nat → Int) (x72 : Nat → Int) (x73 : Nat → Int) (x74 : Nat → Int) (x75 : Nat) (x76 : Nat → Int) (x77 : Nat → Int) (x78 : Nat → Int) (x79 : Nat → Int) (x80 : Nat → Int) (x81 : Nat → Int) (x82 : Nat →
  Int) (x83 : Nat → Int) (x84 : Nat → Int) (c : (Nat × NI × NI × NI × NI × NI × NI × NI × NI × NI × NI × Int × Nat × Nat × Int × Nat × NI × NI × NI × NI × NI × NI ×
  NI × NI × NI × NI × Bool × Int × Int × Int × Int × Int × Int × Nat × Int × Int × Nat × Nat × Bool × Int × Int × Int × Int × Int × Int × Nat × NI × NI × NI × NI × NI × NI × NI × NI × NI ×
  Nat × NI × NI × NI × NI × NI × NI × NI × NI × NI × Nat × NI × NI × NI × NI × NI × NI × NI × NI × NI × Nat × NI × NI × (Nat →
  Int) × NI × NI × NI × NI × NI × NI) → Option ρ) (x : (Unit ⊕ RGPt18) → Option ρ) : (S_astrolabelaw13_RingPlays_1 g_astrolabelaw13_awake g_ring_New g___ring_Buffer__Put g_astrolaberef13_Put g___ring_Buffer__Pop g_astrolaberef13_Pop g___ring_Buffer__Spoilt g_astrolaberef13_Spoilt g___ring_Buffer__Peek g___ring_Buffer__Len g___ring_Buffer__Horizon g__ring_Counts__Total x0 x1 x2 x3 x4 x5 x6 x7 x8 x9 x10 x11 x12 x13 x14 x15 x16 x17 x18 x19 x20 x21 x22 x23 x24 x25 x26 x27 x28 x29 x30 x31 x32 x33 x34 x35 x36 x37 x38 x39 x40 x41 x42 x43 x44 x45 x46 x47 x48 x49 x50 x51 x52 x53 x54 x55 x56 x57 x58 x59 x60 x61 x62 x63 x64 x65 x66 x67 x68 x69 x70 x71 x72 x73 x74 x75 x76 x77 x78 x79 x80 x81 x82 x83 x84 c x).bind q = S_astrolabelaw13_RingPlays_1 g_astrolabelaw13_awake g_ring_New g___ring_Buffer__Put g_astrolaberef13_Put g___ring_Buffer__Pop g_astrolaberef13_Pop g___ring_Buffer__Spoilt g_astrolaberef13_Spoilt g___ring_Buffer__Peek g___ring_Buffer__Len g___ring_Buffer__Horizon g__ring_Counts__Total x0 x1 x2 x3 x4 x5 x6 x7 x8 x9 x10 x11 x12 x13 x14 x15 x16 x17 x18 x19 x20 x21 x22 x23 x24 x25 x26 x27 x28 x29 x30 x31 x32 x33 x34 x35 x36 x37 x38 x39 x40 x41 x42 x43 x44 x45 x46 x47 x48 x49 x50 x51 x52 x53 x54 x55 x56 x57 x58 x59 x60 x61 x62 x63 x64 x65 x66 x67 x68 x69 x70 x71 x72 x73 x74 x75 x76 x77 x78 x79 x80 x81 x82 x83 x84 (fun d => (c d).bind q) (fun d => (x d).bind q) := by
  simp only [S_astrolabelaw13_RingPlays_1, bnd_cond, bnd_bind, bnd_none, bnd_sum]
def L_astrolabelaw13_RingPlays_1 {ρ : Type} (d : Nat × NI × NI × NI × NI × NI × NI × NI × NI × NI × NI × Int × Nat × Nat × Int × Nat × NI × NI × NI × NI × NI × (Nat →
  Int) × NI × NI × NI × NI × Bool × Int × Int × Int × Int × Int × Int × Nat × Int × Int × Nat × Nat × Bool × Int × Int × Int × Int × Int × Int × Nat × NI × NI × NI × NI × NI × NI × NI × NI × (Nat →
  Int) × RGPt16) (k : (Unit ⊕ Nat × NI × NI × NI × NI × NI × NI × NI × NI × NI × NI × Int × Nat × Nat × Int × Nat × NI × (Nat →
  Int) × NI × NI × NI × NI × NI × NI × NI × NI × Bool × Int × Bool × Int × Int × Int × Int × Int × Int × Nat × Int × Int × Nat × Nat × Bool × Int × Int × Int × Int × Int × Int × Nat × NI × NI × NI × (Nat →
  Int) × NI × NI × NI × NI × NI × Nat × NI × NI × NI × NI × NI × NI × NI × NI × NI × Nat × NI × NI × NI × NI × NI × NI × (Nat →
  Int) × RGPt17) → Option ρ) : Option ρ := loopK (fun d c x => S_astrolabelaw13_RingPlays_1 f_astrolabelaw13_awake f_ring_New f___ring_Buffer__Put f_astrolaberef13_Put f___ring_Buffer__Pop f_astrolaberef13_Pop f___ring_Buffer__Spoilt f_astrolaberef13_Spoilt f___ring_Buffer__Peek f___ring_Buffer__Len f___ring_Buffer__Horizon f__ring_Counts__Total d.1 d.2.1 d.2.2.1 d.2.2.2.1 d.c4.1 d.c4.2.1 d.c4.2.2.1 d.c4.2.2.2.1 d.c8.1 d.c8.2.1 d.c8.2.2.1 d.c8.2.2.2.1 d.c8.c4.1 d.c8.c4.2.1 d.c8.c4.2.2.1 d.c8.c4.2.2.2.1 d.c16.1 d.c16.2.1 d.c16.2.2.1 d.c16.2.2.2.1 d.c16.c4.1 d.c16.c4.2.1 d.c16.c4.2.2.1 d.c16.c4.2.2.2.1 d.c16.c8.1 d.c16.c8.2.1 d.c16.c8.2.2.1 d.c16.c8.2.2.2.1 d.c16.c8.c4.1 d.c16.c8.c4.2.1 d.c16.c8.c4.2.2.1 d.c16.c8.c4.2.2.2.1 d.c16.c16.1 d.c16.c16.2.1 d.c16.c16.2.2.1 d.c16.c16.2.2.2.1 d.c16.c16.c4.1 d.c16.c16.c4.2.1 d.c16.c16.c4.2.2.1 d.c16.c16.c4.2.2.2.1 d.c16.c16.c8.1 d.c16.c16.c8.2.1 d.c16.c16.c8.2.2.1 d.c16.c16.c8.2.2.2.1 d.c16.c16.c8.c4.1 d.c16.c16.c8.c4.2.1 d.c16.c16.c8.c4.2.2.1 d.c16.c16.c8.c4.2.2.2.1 d.c16.c16.c16.1 d.c16.c16.c16.2.1 d.c16.c16.c16.2.2.1 d.c16.c16.c16.2.2.2.1 d.c16.c16.c16.c4.1 d.c16.c16.c16.c4.2.1 d.c16.c16.c16.c4.2.2.1 d.c16.c16.c16.c4.2.2.2.1 d.c16.c16.c16.c8.1 d.c16.c16.c16.c8.2.1 d.c16.c16.c16.c8.2.2.1 d.c16.c16.c16.c8.2.2.2.1 d.c16.c16.c16.c8.c4.1 d.c16.c16.c16.c8.c4.2.1 d.c16.c16.c16.c8.c4.2.2.1 d.c16.c16.c16.c8.c4.2.2.2.1 d.c16.c16.c16.c16.1 d.c16.c16.c16.c16.2.1 d.c16.c16.c16.c16.2.2.1 d.c16.c16.c16.c16.2.2.2.1 d.c16.c16.c16.c16.c4.1 d.c16.c16.c16.c16.c4.2.1 d.c16.c16.c16.c16.c4.2.2.1 d.c16.c16.c16.c16.c4.2.2.2.1 d.c16.c16.c16.c16.c8.1 d.c16.c16.c16.c16.c8.2.1 d.c16.c16.c16.c16.c8.2.2.1 d.c16.c16.c16.c16.c8.2.2.2.1 d.c16.c16.c16.c16.c8.c4.1 d.c16.c16.c16.c16.c8.c4.2.1 d.c16.c16.c16.c16.c8.c4.2.2.1 d.c16.c16.c16.c16.c8.c4.2.2.2.1 d.c16.c16.c16.c16.c16.1 d.c16.c16.c16.c16.c16.2.1 d.c16.c16.c16.c16.c16.2.2.1 d.c16.c16.c16.c16.c16.2.2.2.1 d.c16.c16.c16.c16.c16.c4 c x) 200 d k
theorem mL_astrolabelaw13_RingPlays_1 {ρ σ : Type} (q : ρ → Option σ) (d : Nat × NI × NI × NI × NI × NI × NI × NI × NI × NI × NI × Int × Nat × Nat × Int × Nat × NI × NI × NI × NI ×
  NI × NI × NI × NI × NI × NI × Bool × Int × Int × Int × Int × Int × Int × Nat × Int × Int × Nat × Nat × Bool × Int × Int × Int × Int × Int × Int × Nat × NI × NI × NI × NI × NI × NI × NI ×
  NI × NI × Nat × NI × NI × NI × NI × NI × NI × NI × NI × NI × Nat × NI × NI × NI × NI × NI × NI × NI × NI × NI × Nat × (Nat →
  Int) × RGPt20) (k : (Unit ⊕ Nat × NI × NI × NI × NI × NI × NI × NI × NI × NI × NI × Int × Nat × Nat × Int ×
  Nat × NI × NI × NI × NI × NI × NI × NI × NI × NI × NI × Bool × Int × Bool × Int × Int × Int × Int × Int × Int × Nat × Int × Int × Nat × Nat × Bool × Int × Int × Int × Int × Int × Int × Nat × NI × (Nat →
  Int) × NI × NI × NI × NI × NI × NI × NI × Nat × NI × NI × NI × NI × NI × NI × NI × NI × NI × Nat × NI × NI × NI × NI × (Nat →
  Int) × RGPt21) → Option ρ) : (L_astrolabelaw13_RingPlays_1 d k).bind q = L_astrolabelaw13_RingPlays_1 d fun x => (k x).bind q := loopK_bind q (fun d c x => ms_astrolabelaw13_RingPlays_1 f_astrolabelaw13_awake f_ring_New f___ring_Buffer__Put f_astrolaberef13_Put f___ring_Buffer__Pop f_astrolaberef13_Pop f___ring_Buffer__Spoilt f_astrolaberef13_Spoilt f___ring_Buffer__Peek f___ring_Buffer__Len f___ring_Buffer__Horizon f__ring_Counts__Total q d.1 d.2.1 d.2.2.1 d.2.2.2.1 d.c4.1 d.c4.2.1 d.c4.2.2.1 d.c4.2.2.2.1 d.c8.1 d.c8.2.1 d.c8.2.2.1 d.c8.2.2.2.1 d.c8.c4.1 d.c8.c4.2.1 d.c8.c4.2.2.1 d.c8.c4.2.2.2.1 d.c16.1 d.c16.2.1 d.c16.2.2.1 d.c16.2.2.2.1 d.c16.c4.1 d.c16.c4.2.1 d.c16.c4.2.2.1 d.c16.c4.2.2.2.1 d.c16.c8.1 d.c16.c8.2.1 d.c16.c8.2.2.1 d.c16.c8.2.2.2.1 d.c16.c8.c4.1 d.c16.c8.c4.2.1 d.c16.c8.c4.2.2.1 d.c16.c8.c4.2.2.2.1 d.c16.c16.1 d.c16.c16.2.1 d.c16.c16.2.2.1 d.c16.c16.2.2.2.1 d.c16.c16.c4.1 d.c16.c16.c4.2.1 d.c16.c16.c4.2.2.1 d.c16.c16.c4.2.2.2.1 d.c16.c16.c8.1 d.c16.c16.c8.2.1 d.c16.c16.c8.2.2.1 d.c16.c16.c8.2.2.2.1 d.c16.c16.c8.c4.1 d.c16.c16.c8.c4.2.1 d.c16.c16.c8.c4.2.2.1 d.c16.c16.c8.c4.2.2.2.1 d.c16.c16.c16.1 d.c16.c16.c16.2.1 d.c16.c16.c16.2.2.1 d.c16.c16.c16.2.2.2.1 d.c16.c16.c16.c4.1 d.c16.c16.c16.c4.2.1 d.c16.c16.c16.c4.2.2.1 d.c16.c16.c16.c4.2.2.2.1 d.c16.c16.c16.c8.1 d.c16.c16.c16.c8.2.1 d.c16.c16.c16.c8.2.2.1 d.c16.c16.c16.c8.2.2.2.1 d.c16.c16.c16.c8.c4.1 d.c16.c16.c16.c8.c4.2.1 d.c16.c16.c16.c8.c4.2.2.1 d.c16.c16.c16.c8.c4.2.2.2.1 d.c16.c16.c16.c16.1 d.c16.c16.c16.c16.2.1 d.c16.c16.c16.c16.2.2.1 d.c16.c16.c16.c16.2.2.2.1 d.c16.c16.c16.c16.c4.1 d.c16.c16.c16.c16.c4.2.1 d.c16.c16.c16.c16.c4.2.2.1 d.c16.c16.c16.c16.c4.2.2.2.1 d.c16.c16.c16.c16.c8.1 d.c16.c16.c16.c16.c8.2.1 d.c16.c16.c16.c16.c8.2.2.1 d.c16.c16.c16.c16.c8.2.2.2.1 d.c16.c16.c16.c16.c8.c4.1 d.c16.c16.c16.c16.c8.c4.2.1 d.c16.c16.c16.c16.c8.c4.2.2.1 d.c16.c16.c16.c16.c8.c4.2.2.2.1 d.c16.c16.c16.c16.c16.1 d.c16.c16.c16.c16.c16.2.1 d.c16.c16.c16.c16.c16.2.2.1 d.c16.c16.c16.c16.c16.2.2.2.1 d.c16.c16.c16.c16.c16.c4 c x) k _ d
def S_astrolabelaw13_RingPlays_2 {ρ : Type} (g_astrolabelaw13_awake : Option Bool) (g_ring_New : Int → Option (Unit ⊕ Int × NI)) (g___ring_Buffer__Put : RGPg8) (g_astrolaberef13_Put : RGPg9) (g___ring_Buffer__Pop : RGPg10) (g_astrolaberef13_Pop : RGPg11) (g___ring_Buffer__Spoilt : RGPg12) (g_astrolaberef13_Spoilt : RGPg13) (g___ring_Buffer__Peek : RGPg14) (g___ring_Buffer__Len : RGPg15) (g___ring_Buffer__Horizon : RGPg15) (g__ring_Counts__Total : Int → Int → Int → Int → Int → Option Int) (x0 : Nat) (x1 : Nat → Int) (x2 : Nat → Int) (x3 : Nat → Int) (x4 : Nat →
  Int) (x5 : Nat → Int) (x6 : Nat → Int) (x7 : Nat → Int) (x8 : Nat → Int) (x9 : Nat → Int) (x10 : Nat → Int) (x11 : Int) (x12 : Nat) (x13 : Nat → Int) (x14 : Nat → Int) (x15 : Nat → Int) (x16 : Nat → Int) (x17 : Nat → Int) (x18 : Nat → Int) (x19 : Nat → Int) (x20 : Nat → Int) (x21 : Nat → Int) (x22 : Nat →
  Int) (x23 : Bool) (x24 : Int) (x25 : Int) (x26 : Int) (x27 : Int) (x28 : Int) (x29 : Int) (x30 : Nat) (x31 : Bool) (x32 : Int) (x33 : Int) (x34 : Nat) (x35 : Nat) (x36 : Bool) (x37 : Int) (x38 : Int) (x39 : Int) (x40 : Int) (x41 : Int) (x42 : Int) (x43 : Nat) (x44 : Nat → Int) (x45 : Nat → Int) (x46 : Nat →
  Int) (x47 : Nat → Int) (x48 : Nat → Int) (x49 : Nat → Int) (x50 : Nat → Int) (x51 : Nat → Int) (x52 : Nat → Int) (x53 : Nat) (x54 : Nat → Int) (x55 : Nat → Int) (x56 : Nat → Int) (x57 : Nat → Int) (x58 : Nat → Int) (x59 : Nat → Int) (x60 : Nat → Int) (x61 : Nat → Int) (x62 : Nat → Int) (c : (Nat × (Nat →
  Int) × NI × NI × NI × NI × NI × NI × NI × NI × NI × Int × Nat × NI × NI × NI × NI × NI × NI × NI × NI × NI × NI × Bool × Int × Int ×
  Int × Int × Int × Int × Nat × Bool × Int × Int × Nat × Nat × Bool × Int × Int × Int × Int × Int × Int × Nat × NI × NI × NI × NI × NI × NI × NI × NI × NI × Nat × NI × NI × NI × NI × (Nat →
  Int) × NI × NI × NI × NI) → Option ρ) (x : (Unit ⊕ Nat × NI × NI × NI × NI × NI × NI × NI × NI × NI × NI × Int × Bool × Nat × NI × NI × NI × (Nat →
  Int) × NI × NI × NI × NI × NI × NI × Bool × Int × Int × Int × Int × Int × Int × Int × Int × Int × Int × Int × Int × Int × Int × Int × Int × Int × Int × Int × Bool × Int × Nat × Nat × Bool × Int × Bool × Int × Int × Bool × Bool × Bool × Int × Int ×
  Int × Int × Int × Int × Int × Int × Int × Bool × Int × Int × Int × Bool × Int × Nat × Bool × Int × Int × Nat × NI × NI × NI × NI × NI × NI × NI × NI × NI × Nat × NI × NI × NI × NI × (Nat →
  Int) × NI × NI × NI × NI ⊕ Nat × NI × NI × NI × NI × NI × NI × NI × NI × NI × NI × Int × Bool × Nat × NI × NI × NI × NI × NI × (Nat →
  Int) × RGPt22) → Option ρ) : Option ρ := bif Nat.beq x30 x30 then
  Option.bind (g___ring_Buffer__Peek x24 x25 x26 x27 x28 x29 x30 x32 (fun (j : Nat) => x44 (0 + j)) (fun (j : Nat) => x45 (0 + j)) (fun (j : Nat) => x46 (0 + j)) (fun (j : Nat) => x47 (0 + j)) (fun (j : Nat) => x48 (0 + j)) (fun (j : Nat) => x49 (0 + j)) (fun (j : Nat) => x50 (0 + j)) (fun (j : Nat) => x51 (0 + j)) (fun (j : Nat) => x52 (0 + j)) (x31 && true)) fun (d : RGPt5) => bif !(x24 == x38 && (x25 == x39 && (x26 == x40 && (x27 == x41 && (x28 == x42 && true))))) then x (Sum.inl ()) else bif Nat.beq x30 x30 then Option.bind (g___ring_Buffer__Len x24 x25 x26 x27 x28 x29 x30 x32 (fun (j : Nat) => x44 (0 + j)) (fun (j : Nat) => x45 (0 + j)) (fun (j : Nat) => x46 (0 + j)) (fun (j : Nat) => x47 (0 + j)) (fun (j : Nat) => x48 (0 + j)) (fun (j : Nat) => x49 (0 + j)) (fun (j : Nat) => x50 (0 + j)) (fun (j : Nat) => x51 (0 + j)) (fun (j : Nat) => x52 (0 + j)) (x31 && true)) fun (d_1 : Int) => bif d_1 != Int.ofNat x35 then
  x (Sum.inl ()) else bif Nat.beq x30 x30 then Option.bind (g___ring_Buffer__Horizon x24 x25 x26 x27 x28 x29 x30 x32 (fun (j : Nat) => x44 (0 + j)) (fun (j : Nat) => x45 (0 + j)) (fun (j : Nat) => x46 (0 + j)) (fun (j : Nat) => x47 (0 + j)) (fun (j : Nat) => x48 (0 + j)) (fun (j : Nat) => x49 (0 + j)) (fun (j : Nat) => x50 (0 + j)) (fun (j : Nat) => x51 (0 + j)) (fun (j : Nat) => x52 (0 + j)) (x31 && true)) fun (d_2 : Int) => bif d_2 != x37 then
  x (Sum.inl ()) else bif !d.c8.2 == decide (Int.ofNat x35 > 0) then x (Sum.inl ()) else bif d.c8.2 then bif inR 0 x35 then bif !(d.1 == x54 x34 && (d.2.1 == x55 x34 && (d.2.2.1 == x56 x34 && (d.2.2.2.1 == x57 x34 && (d.c4.1 == x58 x34 && (d.c4.2.1 == x59 x34 && (d.c4.2.2.1 == x60 x34 && (d.c4.2.2.2.1 == x61 x34 && (d.c8.1 == x62 x34 && true))))))) && true)) then
  x (Sum.inl ()) else Option.bind (g__ring_Counts__Total x24 x25 x26 x27 x28) fun (d_3 : Int) => bif Nat.beq x30 x30 then Option.bind (g___ring_Buffer__Len x24 x25 x26 x27 x28 x29 x30 x32 (fun (j : Nat) => x44 (0 + j)) (fun (j : Nat) => x45 (0 + j)) (fun (j : Nat) => x46 (0 + j)) (fun (j : Nat) => x47 (0 + j)) (fun (j : Nat) => x48 (0 + j)) (fun (j : Nat) => x49 (0 + j)) (fun (j : Nat) => x50 (0 + j)) (fun (j : Nat) => x51 (0 + j)) (fun (j : Nat) => x52 (0 + j)) (x31 && true)) fun (d_4 : Int) => bif x24 != IntKind.wrap IntKind.i64 (d_3 + d_4) then
  x (Sum.inl ()) else x (Sum.inr (Sum.inl (x0, x1, x2, x3, x4, x5, x6, x7, x8, x9, x10, x11, d.c8.2, x12, x13, x14, x15, x16, x17, x18, x19, x20, x21, x22, x23, d.1, d.2.1, d.2.2.1, d.2.2.2.1, d.c4.1, d.c4.2.1, d.c4.2.2.1,
  d.c4.2.2.2.1, d.c8.1, x24, x25, x26, x27, x28, x38, x39, x40, x41, x42, !(x24 == x38 && (x25 == x39 && (x26 == x40 && (x27 == x41 && (x28 == x42 && true))))), d_1, x34, x35, x36, Int.ofNat x35, d_1 != Int.ofNat x35, d_2, x37, d_2 != x37, decide (Int.ofNat x35 > 0),
  !d.c8.2 == decide (Int.ofNat x35 > 0), x54 x34, x55 x34, x56 x34, x57 x34, x58 x34, x59 x34, x60 x34, x61 x34, x62 x34, !(d.1 == x54 x34 && (d.2.1 == x55 x34 && (d.2.2.1 == x56 x34 && (d.2.2.2.1 == x57 x34 && (d.c4.1 == x58 x34 && (d.c4.2.1 == x59 x34 && (d.c4.2.2.1 == x60 x34 && (d.c4.2.2.2.1 == x61 x34 && (d.c8.1 == x62 x34 && true))))))) && true)),
  d_3, d_4, IntKind.wrap IntKind.i64 (d_3 + d_4), x24 != IntKind.wrap IntKind.i64 (d_3 + d_4), x29, x30, x31, x32, x33, x43, x44, x45, x46, x47, x48, x49, x50, x51, x52, x53, x54, x55, x56, x57, x58, x59, x60, x61, x62))) else none else none else Option.bind (g__ring_Counts__Total x24 x25 x26 x27 x28) fun (d_3 : Int) => bif Nat.beq x30 x30 then
  Option.bind (g___ring_Buffer__Len x24 x25 x26 x27 x28 x29 x30 x32 (fun (j : Nat) => x44 (0 + j)) (fun (j : Nat) => x45 (0 + j)) (fun (j : Nat) => x46 (0 + j)) (fun (j : Nat) => x47 (0 + j)) (fun (j : Nat) => x48 (0 + j)) (fun (j : Nat) => x49 (0 + j)) (fun (j : Nat) => x50 (0 + j)) (fun (j : Nat) => x51 (0 + j)) (fun (j : Nat) => x52 (0 + j)) (x31 && true)) fun (d_4 : Int) => bif x24 != IntKind.wrap IntKind.i64 (d_3 + d_4) then
  x (Sum.inl ()) else x (Sum.inr (Sum.inr (x0, x1, x2, x3, x4, x5, x6, x7, x8, x9, x10, x11, d.c8.2, x12, x13, x14, x15, x16, x17, x18, x19, x20, x21, x22, x23, d.1, d.2.1, d.2.2.1, d.2.2.2.1, d.c4.1, d.c4.2.1, d.c4.2.2.1,
  d.c4.2.2.2.1, d.c8.1, x24, x25, x26, x27, x28, x38, x39, x40, x41, x42, !(x24 == x38 && (x25 == x39 && (x26 == x40 && (x27 == x41 && (x28 == x42 && true))))), d_1, x34, x35, x36, Int.ofNat x35, d_1 != Int.ofNat x35, d_2, x37, d_2 != x37, decide (Int.ofNat x35 > 0),
  !d.c8.2 == decide (Int.ofNat x35 > 0), d_3, d_4, IntKind.wrap IntKind.i64 (d_3 + d_4), x24 != IntKind.wrap IntKind.i64 (d_3 + d_4), x29, x30, x31, x32, x33, x43, x44, x45, x46, x47, x48, x49, x50, x51, x52, x53, x54, x55, x56, x57, x58, x59, x60, x61, x62))) else none else
  none else none else none
section
open Go.Ab.Rdr
def Q_astrolabelaw13_RingPlays_2 := (st (cons aund (cons (ar (rc (cfs hole (nat 10) (cons (ki .i64 hole) (cons (ki .i64 hole) (cons (ki .i64 hole) (cons (ki .i64 hole) (cons (ki .i64 hole) (cons (ki .i64 hole) (cons (ki .i64 hole) (cons (ki .i64 hole) (cons (ki .i64 hole) (cons (ki .i64 hole) nil))))))))))))) (cons aund (cons aund (cons aund (cons (ar (rc (cptr (nat 0) (ok' (nat 0)) (nat 8)))) (cons aund (cons (ar (rc (cptr (nat 1) (ok' (nat 0)) (nat 8)))) (cons (ar (rc (cf (fi .i64 hole)))) (cons aund (cons aund (cons aund (cons aund (cons aund (cons aund (cons aund (cons aund (cons aund (cons aund (cons aund (cons aund (cons aund (cons aund (cons aund (cons aund (cons aund (cons aund (cons aund (cons aund (cons aund (cons aund (cons (atup nil) (cons aund (cons aund (cons aund (cons aund (cons aund (cons aund (cons aund (cons aund (cons aund (cons (atup nil) (cons aund (cons aund (cons aund (cons aund (cons aund (cons aund (cons aund (cons aund (cons (ar (rc (cfs hole (nat 10) (cons (ki .i64 hole) (cons (ki .i64 hole) (cons (ki .i64 hole) (cons (ki .i64 hole) (cons (ki .i64 hole) (cons (ki .i64 hole) (cons (ki .i64 hole) (cons (ki .i64 hole) (cons (ki .i64 hole) (cons (ki .i64 hole) nil))))))))))))) (cons aund (cons aund (cons aund (cons aund (cons aund (cons aund (cons aund (cons aund (cons aund (cons (ar (rc (cf (fb hole)))) (cons aund (cons aund (cons aund (cons aund (cons aund (cons aund (cons aund (cons aund (cons aund (cons aund (cons aund (cons aund (cons aund (cons aund (cons aund (cons aund (cons aund (cons aund (cons aund (cons aund (cons aund (cons aund (cons aund (cons aund (cons aund (cons aund (cons aund (cons aund (cons aund (cons aund (cons aund (cons aund (cons aund (cons aund (cons aund (cons aund (cons aund (cons aund (cons aund (cons aund (cons aund (cons aund (cons aund (cons aund (cons aund (cons aund (cons aund (cons aund (cons aund (cons aund (cons aund (cons aund (cons aund (cons aund (cons aund (cons aund (cons aund (cons aund (cons aund (cons aund (cons aund (cons aund (cons aund (cons aund (cons aund (cons aund (cons aund (cons aund (cons aund (cons aund (cons aund (cons aund (cons aund (cons aund (cons aund (cons aund (cons aund (cons aund (cons aund (cons aund (cons aund (cons aund (cons aund (cons aund (cons aund (cons aund (cons aund (cons aund (cons aund (cons aund (cons aund (cons aund (cons aund (cons aund (cons aund (cons aund (cons aund (cons aund (cons aund (cons aund (cons aund (cons aund (cons aund (cons aund (cons aund (cons aund (cons aund (cons aund (cons aund (cons aund (cons aund (cons aund (cons aund (cons aund (cons aund (cons aund (cons aund (cons aund (cons aund (cons aund (cons aund (cons aund (cons aund (cons aund (cons aund (cons aund (cons aund (cons aund (cons aund (cons aund (cons aund (cons aund (cons aund (cons aund (cons aund (cons aund (cons aund (cons aund (cons aund (cons aund (cons aund (cons aund (cons aund (cons aund (cons aund (cons aund (cons aund (cons aund (cons aund (cons aund (cons aund nil)))))))))))))))))))))))))))))))))))))))))))))))))))))))))))))))))))))))))))))))))))))))))))))))))))))))))))))))))))))))))))))))))))))))))))))))))))))))))))))))))))))))))))))))))))))))))))))))))))))))))))))))))))) (cons (some' (cons (gc (cf (fi .i64 hole))) (cons (gc (cf (fi .i64 hole))) (cons (gc (cf (fi .i64 hole))) (cons (gc (cf (fi .i64 hole))) (cons (gc (cf (fi .i64 hole))) (cons (gc (cf (fi .i64 hole))) (cons (gc (csl (nat 2) (ox (nat 0) (nat 0) (nat 9)) (szs hole) (nat 9) hole)) (cons (gc (cf (fi .i64 hole))) nil))))))))) (cons (some' (cons (gc (cf (fi .i64 hole))) (cons (gc (csl (nat 3) (ox (nat 0) hole (nat 9)) (szs hole) (nat 9) hole)) (cons (gc (cf (fi .i64 hole))) (cons (gc (cf (fi .i64 hole))) (cons (gc (cf (fi .i64 hole))) (cons (gc (cf (fi .i64 hole))) (cons (gc (cf (fi .i64 hole))) (cons (gc (cf (fi .i64 hole))) nil))))))))) (cons (some' (cons (ga (szs hole) (cons (ki .i64 hole) (cons (ki .i64 hole) (cons (ki .i64 hole) (cons (ki .i64 hole) (cons (ki .i64 hole) (cons (ki .i64 hole) (cons (ki .i64 hole) (cons (ki .i64 hole) (cons (ki .i64 hole) nil)))))))))) nil)) (cons (some' (cons (ga (szs hole) (cons (ki .i64 hole) (cons (ki .i64 hole) (cons (ki .i64 hole) (cons (ki .i64 hole) (cons (ki .i64 hole) (cons (ki .i64 hole) (cons (ki .i64 hole) (cons (ki .i64 hole) (cons (ki .i64 hole) nil)))))))))) nil)) nil)))) nil)
end
theorem q_astrolabelaw13_RingPlays_2 : ∀ b, (Q_astrolabelaw13_RingPlays_2).em b = St.mk [und, AV.r (RV.c (CV.fs b.1.2.1.1 10 [kI b.1.2.1.2.2.1, kI b.1.2.1.2.2.2.1, kI b.1.2.1.c4.1, kI b.1.2.1.c4.2.1, kI b.1.2.1.c4.2.2.1,
  kI b.1.2.1.c4.2.2.2.1, kI b.1.2.1.c8.1, kI b.1.2.1.c8.2.1, kI b.1.2.1.c8.2.2.1, kI b.1.2.1.c8.2.2.2.1])), und, und, und, AV.r (RV.c (CV.ptr 0 (Off.k 0) 8)), und,
  AV.r (RV.c (CV.ptr 1 (Off.k 0) 8)), AV.r (RV.c (fI b.1.c8.1)), und, und, und, und, und, und, und, und, und, und, und, und, und, und, und, und, und, und, und, und, und, und, AV.tup [], und, und, und,
  und, und, und, und, und, und, AV.tup [], und, und, und, und, und, und, und, und, AV.r (RV.c (CV.fs b.1.c16.c16.c16.2.2.1.1 10 [kI b.1.c16.c16.c16.2.2.1.2.2.1,
  kI b.1.c16.c16.c16.2.2.1.2.2.2.1, kI b.1.c16.c16.c16.2.2.1.c4.1, kI b.1.c16.c16.c16.2.2.1.c4.2.1,
  kI b.1.c16.c16.c16.2.2.1.c4.2.2.1, kI b.1.c16.c16.c16.2.2.1.c4.2.2.2.1, kI b.1.c16.c16.c16.2.2.1.c8.1,
  kI b.1.c16.c16.c16.2.2.1.c8.2.1, kI b.1.c16.c16.c16.2.2.1.c8.2.2.1, kI b.1.c16.c16.c16.2.2.1.c8.2.2.2.1])),
  und, und, und, und, und, und, und, und, und, AV.r (RV.c (CV.f (FV.b b.1.c16.c16.c16.c8.c4.1))), und, und, und, und, und, und, und, und, und, und,
  und, und, und, und, und, und, und, und, und, und, und, und, und, und, und, und, und, und, und, und, und, und, und, und, und, und, und, und, und, und, und, und, und, und, und, und, und, und,
  und, und, und, und, und, und, und, und, und, und, und, und, und, und, und, und, und, und, und, und, und, und, und, und, und, und, und, und, und, und, und, und, und, und, und, und, und, und,
  und, und, und, und, und, und, und, und, und, und, und, und, und, und, und, und, und, und, und, und, und, und, und, und, und, und, und, und, und, und, und, und, und, und, und, und, und, und,
  und, und, und, und, und, und, und, und, und, und, und, und, und, und, und, und, und, und, und, und, und, und, und, und, und, und, und] [some [Sg.c (fI b.2.1.1.1), Sg.c (fI b.2.1.1.2.1),
  Sg.c (fI b.2.1.1.2.2.1), Sg.c (fI b.2.1.1.2.2.2.1), Sg.c (fI b.2.1.1.c4.1), Sg.c (fI b.2.1.1.c4.2.1), Sg.c (CV.sl 2 (Off.x 0 0 9) (Sz.s b.2.1.1.c4.2.2.1.2.2.1) 9 b.2.1.1.c4.2.2.1.c4), Sg.c (fI b.2.1.1.c4.2.2.2.1)],
  some [Sg.c (fI b.2.1.2.1.1), Sg.c (CV.sl 3 (Off.x 0 b.2.1.2.1.2.1.2.1.2.1 9) (Sz.s b.2.1.2.1.2.1.2.2.1) 9 b.2.1.2.1.2.1.c4), Sg.c (fI b.2.1.2.1.2.2.1), Sg.c (fI b.2.1.2.1.2.2.2.1), Sg.c (fI b.2.1.2.1.c4.1),
  Sg.c (fI b.2.1.2.1.c4.2.1), Sg.c (fI b.2.1.2.1.c4.2.2.1), Sg.c (fI b.2.1.2.1.c4.2.2.2.1)], some [Sg.a (Sz.s b.2.1.2.2.1.1.1) [kI b.2.1.2.2.1.1.2.1, kI b.2.1.2.2.1.1.2.2.1, kI b.2.1.2.2.1.1.2.2.2.1,
  kI b.2.1.2.2.1.1.c4.1, kI b.2.1.2.2.1.1.c4.2.1, kI b.2.1.2.2.1.1.c4.2.2.1, kI b.2.1.2.2.1.1.c4.2.2.2.1, kI b.2.1.2.2.1.1.c8.1, kI b.2.1.2.2.1.1.c8.2.1]], some [Sg.a (Sz.s b.2.1.2.2.2.1.1.1) [kI b.2.1.2.2.2.1.1.2.1,
  kI b.2.1.2.2.2.1.1.2.2.1, kI b.2.1.2.2.2.1.1.2.2.2.1, kI b.2.1.2.2.2.1.1.c4.1, kI b.2.1.2.2.2.1.1.c4.2.1, kI b.2.1.2.2.2.1.1.c4.2.2.1, kI b.2.1.2.2.2.1.1.c4.2.2.2.1, kI b.2.1.2.2.2.1.1.c8.1,
  kI b.2.1.2.2.2.1.1.c8.2.1]]] [] := fun b => by kernel_rfl
def R_astrolabelaw13_RingPlays_2 (l : ∀ {ρ : Type}, (Nat × NI × NI × NI × NI × NI × NI × NI × NI × NI × NI × Int × Nat × NI × NI × NI × NI × NI × NI × (Nat →
  Int) × RGPt23) → ((Unit ⊕ Nat × NI × NI × NI × NI × NI × NI × NI × NI × NI × NI × Int × Bool ×
  Nat × NI × NI × NI × NI × NI × NI × NI × NI × NI × NI × Bool × Int × Int × Int × Int × Int × Int × Int × Int × Int × Int × Int × Int × Int × Int × Int × Int × Int × Int × Int × Bool × Int × Nat × Nat × Bool × Int ×
  Bool × Int × Int × Bool × Bool × Bool × Int × Int × Int × Int × Int × Int × Int × Int × Int × Bool × Int × Int × Int × Bool × Int × Nat × Bool × Int × Int × Nat × NI × NI × NI × NI × NI × NI × NI × NI × NI × Nat × (Nat →
  Int) × RGPt20 ⊕ Nat × NI × NI × NI × NI × NI × NI × NI × NI × NI × NI × Int × Bool × Nat × NI × (Nat →
  Int) × RGPt24) → Option ρ) → Option ρ) {ρ : Type} (s : St) (K : AX → St → Option ρ) : Option ρ := ((Q_astrolabelaw13_RingPlays_2).rd s).bind fun b => l (b.1.2.1.1, b.1.2.1.2.2.1, b.1.2.1.2.2.2.1, b.1.2.1.c4.1, b.1.2.1.c4.2.1, b.1.2.1.c4.2.2.1, b.1.2.1.c4.2.2.2.1, b.1.2.1.c8.1,
  b.1.2.1.c8.2.1, b.1.2.1.c8.2.2.1, b.1.2.1.c8.2.2.2.1, b.1.c8.1, b.1.c16.c16.c16.2.2.1.1, b.1.c16.c16.c16.2.2.1.2.2.1,
  b.1.c16.c16.c16.2.2.1.2.2.2.1, b.1.c16.c16.c16.2.2.1.c4.1, b.1.c16.c16.c16.2.2.1.c4.2.1,
  b.1.c16.c16.c16.2.2.1.c4.2.2.1, b.1.c16.c16.c16.2.2.1.c4.2.2.2.1, b.1.c16.c16.c16.2.2.1.c8.1,
  b.1.c16.c16.c16.2.2.1.c8.2.1, b.1.c16.c16.c16.2.2.1.c8.2.2.1, b.1.c16.c16.c16.2.2.1.c8.2.2.2.1,
  b.1.c16.c16.c16.c8.c4.1, b.2.1.1.1, b.2.1.1.2.1, b.2.1.1.2.2.1, b.2.1.1.2.2.2.1, b.2.1.1.c4.1, b.2.1.1.c4.2.1, b.2.1.1.c4.2.2.1.2.2.1, b.2.1.1.c4.2.2.1.c4, b.2.1.1.c4.2.2.2.1,
  b.2.1.2.1.1, b.2.1.2.1.2.1.2.1.2.1, b.2.1.2.1.2.1.2.2.1, b.2.1.2.1.2.1.c4, b.2.1.2.1.2.2.1, b.2.1.2.1.2.2.2.1, b.2.1.2.1.c4.1, b.2.1.2.1.c4.2.1, b.2.1.2.1.c4.2.2.1, b.2.1.2.1.c4.2.2.2.1, b.2.1.2.2.1.1.1, b.2.1.2.2.1.1.2.1, b.2.1.2.2.1.1.2.2.1, b.2.1.2.2.1.1.2.2.2.1, b.2.1.2.2.1.1.c4.1,
  b.2.1.2.2.1.1.c4.2.1, b.2.1.2.2.1.1.c4.2.2.1, b.2.1.2.2.1.1.c4.2.2.2.1, b.2.1.2.2.1.1.c8.1, b.2.1.2.2.1.1.c8.2.1, b.2.1.2.2.2.1.1.1, b.2.1.2.2.2.1.1.2.1, b.2.1.2.2.2.1.1.2.2.1, b.2.1.2.2.2.1.1.2.2.2.1, b.2.1.2.2.2.1.1.c4.1, b.2.1.2.2.2.1.1.c4.2.1, b.2.1.2.2.2.1.1.c4.2.2.1,
  b.2.1.2.2.2.1.1.c4.2.2.2.1, b.2.1.2.2.2.1.1.c8.1, b.2.1.2.2.2.1.1.c8.2.1) (Sum.elim (fun d => K (AX.ret) (St.mk [und, und, und, und, AV.r (RV.c (CV.f (FV.b false))), und, und, und, und, und, und, und, und, und, und, und, und,
  und, und, und, und, und, und, und, und, und, und, und, und, und, und, und, und, und, und, und, und, und, und, und, und, und, und, und, und, und, und, und, und, und, und, und, und, und, und,
  und, und, und, und, und, und, und, und, und, und, und, und, und, und, und, und, und, und, und, und, und, und, und, und, und, und, und, und, und, und, und, und, und, und, und, und, und, und,
  und, und, und, und, und, und, und, und, und, und, und, und, und, und, und, und, und, und, und, und, und, und, und, und, und, und, und, und, und, und, und, und, und, und, und, und, und, und,
  und, und, und, und, und, und, und, und, und, und, und, und, und, und, und, und, und, und, und, und, und, und, und, und, und, und, und, und, und, und, und, und, und, und, und, und, und, und,
  und, und, und, und, und, und, und, und, und, und, und, und, und, und, und, und, und, und, und, und, und, und, und, und, und, und, und, und, und, und, und, und, und, und, und, und, und, und,
  und, und, und, und, und] [] [])) (Sum.elim (fun d => K (AX.nrm) (St.mk [und, AV.r (RV.c (CV.fs d.1 10 [kI d.2.1, kI d.2.2.1, kI d.2.2.2.1, kI d.c4.1, kI d.c4.2.1,
  kI d.c4.2.2.1, kI d.c4.2.2.2.1, kI d.c8.1, kI d.c8.2.1, kI d.c8.2.2.1])), und, und,
  und, AV.r (RV.c (CV.ptr 0 (Off.k 0) 8)), und, AV.r (RV.c (CV.ptr 1 (Off.k 0) 8)), AV.r (RV.c (fI d.c8.2.2.2.1)), und, und, und, AV.r (RV.c (CV.ptr 4 (Off.k 0) 9)), AV.r (RV.c (CV.f (FV.b d.c8.c4.1))),
  und, und, und, und, und, und, und, und, und, und, und, und, und, und, und, und, und, AV.tup [], und, und, und, und, und, und, und, und, und, AV.tup [], und, und, und, und, und, und, und, und, AV.r (RV.c (CV.fs d.c8.c4.2.1 10 [kI d.c8.c4.2.2.1,
  kI d.c8.c4.2.2.2.1, kI d.c16.1, kI d.c16.2.1, kI d.c16.2.2.1,
  kI d.c16.2.2.2.1, kI d.c16.c4.1, kI d.c16.c4.2.1,
  kI d.c16.c4.2.2.1, kI d.c16.c4.2.2.2.1])), und, und, und, und, und, und, und, und, und,
  AV.r (RV.c (CV.f (FV.b d.c16.c8.1))), und, und, und, und, und, und, und, und, und, und, und, und, und, und, und, und, und, und, und, und, und, und,
  und, und, und, und, und, und, und, und, und, und, und, und, und, und, und, und, und, und, und, und, und, und, und, und, und, und, und, und, und, und, und, und, und, und, und, AV.tup [RV.agg [Sg.c (fI d.c16.c8.2.1),
  Sg.c (fI d.c16.c8.2.2.1), Sg.c (fI d.c16.c8.2.2.2.1), Sg.c (fI d.c16.c8.c4.1),
  Sg.c (fI d.c16.c8.c4.2.1), Sg.c (fI d.c16.c8.c4.2.2.1),
  Sg.c (fI d.c16.c8.c4.2.2.2.1), Sg.c (fI d.c16.c16.1),
  Sg.c (fI d.c16.c16.2.1)], RV.c (CV.f (FV.b d.c8.c4.1))], AV.r (RV.c (CV.ptr 0 (Off.k 0) 8)), AV.tup [RV.agg [Sg.c (fI d.c16.c8.2.1),
  Sg.c (fI d.c16.c8.2.2.1), Sg.c (fI d.c16.c8.2.2.2.1), Sg.c (fI d.c16.c8.c4.1),
  Sg.c (fI d.c16.c8.c4.2.1), Sg.c (fI d.c16.c8.c4.2.2.1),
  Sg.c (fI d.c16.c8.c4.2.2.2.1), Sg.c (fI d.c16.c16.1),
  Sg.c (fI d.c16.c16.2.1)], RV.c (CV.f (FV.b d.c8.c4.1))], AV.r (RV.agg [Sg.c (fI d.c16.c8.2.1),
  Sg.c (fI d.c16.c8.2.2.1), Sg.c (fI d.c16.c8.2.2.2.1), Sg.c (fI d.c16.c8.c4.1),
  Sg.c (fI d.c16.c8.c4.2.1), Sg.c (fI d.c16.c8.c4.2.2.1),
  Sg.c (fI d.c16.c8.c4.2.2.2.1), Sg.c (fI d.c16.c16.1),
  Sg.c (fI d.c16.c16.2.1)]), AV.r (RV.c (CV.f (FV.b d.c8.c4.1))), AV.r (RV.c (CV.ptr 0 (Off.k 0) 8)), AV.r (RV.c (CV.ptr 0 (Off.k 0) 8)),
  AV.r (RV.c (CV.ptr 0 (Off.k 0) 5)), AV.r (RV.agg [Sg.c (fI d.c16.c16.2.2.1), Sg.c (fI d.c16.c16.2.2.2.1),
  Sg.c (fI d.c16.c16.c4.1), Sg.c (fI d.c16.c16.c4.2.1),
  Sg.c (fI d.c16.c16.c4.2.2.1)]), AV.r (RV.c (CV.ptr 1 (Off.k 0) 8)), AV.r (RV.c (CV.ptr 1 (Off.k 0) 8)), AV.r (RV.c (CV.ptr 1 (Off.k 3) 5)), AV.r (RV.c (CV.ptr 1 (Off.k 3) 1)),
  AV.r (RV.c (fI d.c16.c16.c4.2.2.2.1)), AV.r (RV.c (CV.ptr 1 (Off.k 0) 8)), AV.r (RV.c (CV.ptr 1 (Off.k 0) 8)), AV.r (RV.c (CV.ptr 1 (Off.k 3) 5)),
  AV.r (RV.c (CV.ptr 1 (Off.k 4) 1)), AV.r (RV.c (fI d.c16.c16.c8.1)), AV.r (RV.c (CV.ptr 1 (Off.k 0) 8)), AV.r (RV.c (CV.ptr 1 (Off.k 0) 8)),
  AV.r (RV.c (CV.ptr 1 (Off.k 3) 5)), AV.r (RV.c (CV.ptr 1 (Off.k 5) 1)), AV.r (RV.c (fI d.c16.c16.c8.2.1)), AV.r (RV.c (CV.ptr 1 (Off.k 0) 8)),
  AV.r (RV.c (CV.ptr 1 (Off.k 0) 8)), AV.r (RV.c (CV.ptr 1 (Off.k 3) 5)), AV.r (RV.c (CV.ptr 1 (Off.k 6) 1)), AV.r (RV.c (fI d.c16.c16.c8.2.2.1)),
  AV.r (RV.c (CV.ptr 1 (Off.k 0) 8)), AV.r (RV.c (CV.ptr 1 (Off.k 0) 8)), AV.r (RV.c (CV.ptr 1 (Off.k 3) 5)), AV.r (RV.c (CV.ptr 1 (Off.k 7) 1)), AV.r (RV.c (fI d.c16.c16.c8.2.2.2.1)),
  AV.r (RV.agg [Sg.c (fI d.c16.c16.c4.2.2.2.1), Sg.c (fI d.c16.c16.c8.1),
  Sg.c (fI d.c16.c16.c8.2.1), Sg.c (fI d.c16.c16.c8.2.2.1),
  Sg.c (fI d.c16.c16.c8.2.2.2.1)]), AV.r (RV.c (CV.f (FV.b d.c16.c16.c8.c4.1))),
  AV.r (RV.c (CV.f (FV.b false))), AV.r (RV.c (CV.ptr 0 (Off.k 0) 8)), AV.r (RV.c (fI d.c16.c16.c8.c4.2.1)), AV.r (RV.c (CV.ptr 1 (Off.k 0) 8)),
  AV.r (RV.c (CV.ptr 1 (Off.k 0) 8)), AV.r (RV.c (CV.ptr 1 (Off.k 1) 1)), AV.r (RV.c (CV.sl 3 (Off.x 0 d.c16.c16.c8.c4.2.2.1 9) (Sz.s d.c16.c16.c8.c4.2.2.2.1) 9 d.c16.c16.c16.1)),
  AV.r (RV.c (fI d.c16.c16.c16.2.1)), AV.r (RV.c (CV.f (FV.b d.c16.c16.c16.2.2.1))),
  AV.r (RV.c (CV.f (FV.b d.c16.c16.c16.2.2.1))), AV.r (RV.c (CV.f (FV.b false))), AV.r (RV.c (CV.ptr 0 (Off.k 0) 8)),
  AV.r (RV.c (fI d.c16.c16.c16.2.2.2.1)), AV.r (RV.c (CV.ptr 1 (Off.k 0) 8)), AV.r (RV.c (CV.ptr 1 (Off.k 0) 8)),
  AV.r (RV.c (CV.ptr 1 (Off.k 2) 1)), AV.r (RV.c (fI d.c16.c16.c16.c4.1)), AV.r (RV.c (CV.f (FV.b d.c16.c16.c16.c4.2.1))),
  AV.r (RV.c (CV.f (FV.b d.c16.c16.c16.c4.2.1))), AV.r (RV.c (CV.f (FV.b false))), AV.r (RV.c (CV.f (FV.b d.c8.c4.1))),
  AV.r (RV.c (CV.ptr 1 (Off.k 0) 8)), AV.r (RV.c (CV.ptr 1 (Off.k 0) 8)), AV.r (RV.c (CV.ptr 1 (Off.k 1) 1)), AV.r (RV.c (CV.sl 3 (Off.x 0 d.c16.c16.c8.c4.2.2.1 9) (Sz.s d.c16.c16.c8.c4.2.2.2.1) 9 d.c16.c16.c16.1)),
  AV.r (RV.c (fI d.c16.c16.c16.2.1)), AV.r (RV.c (CV.f (FV.b d.c16.c16.c16.c4.2.2.1))),
  AV.r (RV.c (CV.f (FV.b d.c16.c16.c16.c4.2.2.2.1))), AV.r (RV.c (CV.f (FV.b d.c16.c16.c16.c4.2.2.2.1))),
  AV.r (RV.c (CV.f (FV.b false))), AV.r (RV.c (CV.f (FV.b d.c8.c4.1))), AV.r (RV.c (CV.f (FV.b true))), AV.r (RV.agg [Sg.c (fI d.c16.c8.2.1), Sg.c (fI d.c16.c8.2.2.1),
  Sg.c (fI d.c16.c8.2.2.2.1), Sg.c (fI d.c16.c8.c4.1), Sg.c (fI d.c16.c8.c4.2.1),
  Sg.c (fI d.c16.c8.c4.2.2.1), Sg.c (fI d.c16.c8.c4.2.2.2.1),
  Sg.c (fI d.c16.c16.1), Sg.c (fI d.c16.c16.2.1)]),
  AV.r (RV.c (CV.ptr 1 (Off.k 0) 8)), AV.r (RV.c (CV.ptr 1 (Off.k 0) 8)), AV.r (RV.c (CV.ptr 1 (Off.k 1) 1)), AV.r (RV.c (CV.sl 3 (Off.x 0 d.c16.c16.c8.c4.2.2.1 9) (Sz.s d.c16.c16.c8.c4.2.2.2.1) 9 d.c16.c16.c16.1)),
  AV.r (RV.c (CV.ptr 3 (Off.x 0 d.c16.c16.c8.c4.2.2.1 9) 9)), AV.r (RV.agg [Sg.c (fI d.c16.c16.c16.c8.1),
  Sg.c (fI d.c16.c16.c16.c8.2.1), Sg.c (fI d.c16.c16.c16.c8.2.2.1),
  Sg.c (fI d.c16.c16.c16.c8.2.2.2.1), Sg.c (fI d.c16.c16.c16.c8.c4.1),
  Sg.c (fI d.c16.c16.c16.c8.c4.2.1), Sg.c (fI d.c16.c16.c16.c8.c4.2.2.1),
  Sg.c (fI d.c16.c16.c16.c8.c4.2.2.2.1), Sg.c (fI d.c16.c16.c16.c16.1)]),
  AV.r (RV.c (CV.f (FV.b d.c16.c16.c16.c16.2.1))), AV.r (RV.c (CV.f (FV.b d.c16.c16.c16.c16.2.1))),
  AV.r (RV.c (CV.f (FV.b d.c16.c16.c16.c16.2.1))), AV.r (RV.c (CV.f (FV.b false))),
  AV.r (RV.c (CV.ptr 0 (Off.k 0) 8)), AV.r (RV.c (CV.ptr 0 (Off.k 0) 8)), AV.r (RV.c (CV.ptr 0 (Off.k 0) 5)), AV.r (RV.c (CV.ptr 0 (Off.k 0) 1)), AV.r (RV.c (fI d.c16.c16.2.2.1)),
  AV.r (RV.c (CV.ptr 0 (Off.k 0) 8)), AV.r (RV.c (CV.ptr 0 (Off.k 0) 8)), AV.r (RV.c (CV.ptr 0 (Off.k 0) 5)), AV.r (RV.agg [Sg.c (fI d.c16.c16.2.2.1), Sg.c (fI d.c16.c16.2.2.2.1),
  Sg.c (fI d.c16.c16.c4.1), Sg.c (fI d.c16.c16.c4.2.1),
  Sg.c (fI d.c16.c16.c4.2.2.1)]), AV.r (RV.c (fI d.c16.c16.c16.c16.2.2.1)),
  AV.r (RV.c (CV.ptr 0 (Off.k 0) 8)), AV.r (RV.c (fI d.c16.c16.c16.c16.2.2.2.1)),
  AV.r (RV.c (fI d.c16.c16.c16.c16.c4.1)),
  AV.r (RV.c (CV.f (FV.b d.c16.c16.c16.c16.c4.2.1))),
  AV.r (RV.c (CV.f (FV.b d.c16.c16.c16.c16.c4.2.1)))] [some [Sg.c (fI d.c16.c16.2.2.1),
  Sg.c (fI d.c16.c16.2.2.2.1), Sg.c (fI d.c16.c16.c4.1),
  Sg.c (fI d.c16.c16.c4.2.1), Sg.c (fI d.c16.c16.c4.2.2.1),
  Sg.c (fI d.c16.c16.c16.c16.c4.2.2.1),
  Sg.c (CV.sl 2 (Off.x 0 0 9) (Sz.s d.c16.c16.c16.c16.c4.2.2.2.1) 9 d.c16.c16.c16.c16.c8.1),
  Sg.c (fI d.c16.c16.c16.c16.c8.2.1)],
  some [Sg.c (fI d.c16.c16.c16.c16.c8.2.2.1),
  Sg.c (CV.sl 3 (Off.x 0 d.c16.c16.c8.c4.2.2.1 9) (Sz.s d.c16.c16.c8.c4.2.2.2.1) 9 d.c16.c16.c16.1),
  Sg.c (fI d.c16.c16.c16.c4.1), Sg.c (fI d.c16.c16.c4.2.2.2.1),
  Sg.c (fI d.c16.c16.c8.1), Sg.c (fI d.c16.c16.c8.2.1),
  Sg.c (fI d.c16.c16.c8.2.2.1), Sg.c (fI d.c16.c16.c8.2.2.2.1)],
  some [Sg.a (Sz.s d.c16.c16.c16.c16.c8.2.2.2.1) [kI d.c16.c16.c16.c16.c8.c4.1,
  kI d.c16.c16.c16.c16.c8.c4.2.1,
  kI d.c16.c16.c16.c16.c8.c4.2.2.1,
  kI d.c16.c16.c16.c16.c8.c4.2.2.2.1,
  kI d.c16.c16.c16.c16.c16.1,
  kI d.c16.c16.c16.c16.c16.2.1,
  kI d.c16.c16.c16.c16.c16.2.2.1,
  kI d.c16.c16.c16.c16.c16.2.2.2.1,
  kI d.c16.c16.c16.c16.c16.c4.1]],
  some [Sg.a (Sz.s d.c16.c16.c16.c16.c16.c4.2.1) [kI d.c16.c16.c16.c16.c16.c4.2.2.1,
  kI d.c16.c16.c16.c16.c16.c4.2.2.2.1,
  kI d.c16.c16.c16.c16.c16.c8.1,
  kI d.c16.c16.c16.c16.c16.c8.2.1,
  kI d.c16.c16.c16.c16.c16.c8.2.2.1,
  kI d.c16.c16.c16.c16.c16.c8.2.2.2.1,
  kI d.c16.c16.c16.c16.c16.c8.c4.1,
  kI d.c16.c16.c16.c16.c16.c8.c4.2.1,
  kI d.c16.c16.c16.c16.c16.c8.c4.2.2]],
  some [Sg.c (fI d.c16.c8.2.1), Sg.c (fI d.c16.c8.2.2.1), Sg.c (fI d.c16.c8.2.2.2.1),
  Sg.c (fI d.c16.c8.c4.1), Sg.c (fI d.c16.c8.c4.2.1),
  Sg.c (fI d.c16.c8.c4.2.2.1), Sg.c (fI d.c16.c8.c4.2.2.2.1),
  Sg.c (fI d.c16.c16.1), Sg.c (fI d.c16.c16.2.1)]] [])) (fun d => K (AX.nrm) (St.mk [und,
  AV.r (RV.c (CV.fs d.1 10 [kI d.2.1, kI d.2.2.1, kI d.2.2.2.1, kI d.c4.1, kI d.c4.2.1, kI d.c4.2.2.1, kI d.c4.2.2.2.1,
  kI d.c8.1, kI d.c8.2.1, kI d.c8.2.2.1])), und, und, und, AV.r (RV.c (CV.ptr 0 (Off.k 0) 8)), und, AV.r (RV.c (CV.ptr 1 (Off.k 0) 8)), AV.r (RV.c (fI d.c8.2.2.2.1)),
  und, und, und, AV.r (RV.c (CV.ptr 4 (Off.k 0) 9)), AV.r (RV.c (CV.f (FV.b d.c8.c4.1))), und, und, und, und, und, und, und, und, und, und, und, und, und, und, und, und, und, AV.tup [], und, und,
  und, und, und, und, und, und, und, AV.tup [], und, und, und, und, und, und, und, und, AV.r (RV.c (CV.fs d.c8.c4.2.1 10 [kI d.c8.c4.2.2.1, kI d.c8.c4.2.2.2.1,
  kI d.c16.1, kI d.c16.2.1, kI d.c16.2.2.1, kI d.c16.2.2.2.1,
  kI d.c16.c4.1, kI d.c16.c4.2.1, kI d.c16.c4.2.2.1,
  kI d.c16.c4.2.2.2.1])), und, und, und, und, und, und, und, und, und, AV.r (RV.c (CV.f (FV.b d.c16.c8.1))),
  und, und, und, und, und, und, und, und, und, und, und, und, und, und, und, und, und, und, und, und, und, und, und, und, und, und, und, und, und, und, und, und, und, und, und, und, und, und,
  und, und, und, und, und, und, und, und, und, und, und, und, und, und, und, und, und, und, und, AV.tup [RV.agg [Sg.c (fI d.c16.c8.2.1),
  Sg.c (fI d.c16.c8.2.2.1), Sg.c (fI d.c16.c8.2.2.2.1), Sg.c (fI d.c16.c8.c4.1),
  Sg.c (fI d.c16.c8.c4.2.1), Sg.c (fI d.c16.c8.c4.2.2.1),
  Sg.c (fI d.c16.c8.c4.2.2.2.1), Sg.c (fI d.c16.c16.1),
  Sg.c (fI d.c16.c16.2.1)], RV.c (CV.f (FV.b d.c8.c4.1))], AV.r (RV.c (CV.ptr 0 (Off.k 0) 8)), AV.tup [RV.agg [Sg.c (fI d.c16.c8.2.1),
  Sg.c (fI d.c16.c8.2.2.1), Sg.c (fI d.c16.c8.2.2.2.1), Sg.c (fI d.c16.c8.c4.1),
  Sg.c (fI d.c16.c8.c4.2.1), Sg.c (fI d.c16.c8.c4.2.2.1),
  Sg.c (fI d.c16.c8.c4.2.2.2.1), Sg.c (fI d.c16.c16.1),
  Sg.c (fI d.c16.c16.2.1)], RV.c (CV.f (FV.b d.c8.c4.1))], AV.r (RV.agg [Sg.c (fI d.c16.c8.2.1),
  Sg.c (fI d.c16.c8.2.2.1), Sg.c (fI d.c16.c8.2.2.2.1), Sg.c (fI d.c16.c8.c4.1),
  Sg.c (fI d.c16.c8.c4.2.1), Sg.c (fI d.c16.c8.c4.2.2.1),
  Sg.c (fI d.c16.c8.c4.2.2.2.1), Sg.c (fI d.c16.c16.1),
  Sg.c (fI d.c16.c16.2.1)]), AV.r (RV.c (CV.f (FV.b d.c8.c4.1))), AV.r (RV.c (CV.ptr 0 (Off.k 0) 8)), AV.r (RV.c (CV.ptr 0 (Off.k 0) 8)),
  AV.r (RV.c (CV.ptr 0 (Off.k 0) 5)), AV.r (RV.agg [Sg.c (fI d.c16.c16.2.2.1), Sg.c (fI d.c16.c16.2.2.2.1),
  Sg.c (fI d.c16.c16.c4.1), Sg.c (fI d.c16.c16.c4.2.1),
  Sg.c (fI d.c16.c16.c4.2.2.1)]), AV.r (RV.c (CV.ptr 1 (Off.k 0) 8)), AV.r (RV.c (CV.ptr 1 (Off.k 0) 8)), AV.r (RV.c (CV.ptr 1 (Off.k 3) 5)), AV.r (RV.c (CV.ptr 1 (Off.k 3) 1)),
  AV.r (RV.c (fI d.c16.c16.c4.2.2.2.1)), AV.r (RV.c (CV.ptr 1 (Off.k 0) 8)), AV.r (RV.c (CV.ptr 1 (Off.k 0) 8)), AV.r (RV.c (CV.ptr 1 (Off.k 3) 5)),
  AV.r (RV.c (CV.ptr 1 (Off.k 4) 1)), AV.r (RV.c (fI d.c16.c16.c8.1)), AV.r (RV.c (CV.ptr 1 (Off.k 0) 8)), AV.r (RV.c (CV.ptr 1 (Off.k 0) 8)),
  AV.r (RV.c (CV.ptr 1 (Off.k 3) 5)), AV.r (RV.c (CV.ptr 1 (Off.k 5) 1)), AV.r (RV.c (fI d.c16.c16.c8.2.1)), AV.r (RV.c (CV.ptr 1 (Off.k 0) 8)),
  AV.r (RV.c (CV.ptr 1 (Off.k 0) 8)), AV.r (RV.c (CV.ptr 1 (Off.k 3) 5)), AV.r (RV.c (CV.ptr 1 (Off.k 6) 1)), AV.r (RV.c (fI d.c16.c16.c8.2.2.1)),
  AV.r (RV.c (CV.ptr 1 (Off.k 0) 8)), AV.r (RV.c (CV.ptr 1 (Off.k 0) 8)), AV.r (RV.c (CV.ptr 1 (Off.k 3) 5)), AV.r (RV.c (CV.ptr 1 (Off.k 7) 1)), AV.r (RV.c (fI d.c16.c16.c8.2.2.2.1)),
  AV.r (RV.agg [Sg.c (fI d.c16.c16.c4.2.2.2.1), Sg.c (fI d.c16.c16.c8.1),
  Sg.c (fI d.c16.c16.c8.2.1), Sg.c (fI d.c16.c16.c8.2.2.1),
  Sg.c (fI d.c16.c16.c8.2.2.2.1)]), AV.r (RV.c (CV.f (FV.b d.c16.c16.c8.c4.1))),
  AV.r (RV.c (CV.f (FV.b false))), AV.r (RV.c (CV.ptr 0 (Off.k 0) 8)), AV.r (RV.c (fI d.c16.c16.c8.c4.2.1)), AV.r (RV.c (CV.ptr 1 (Off.k 0) 8)),
  AV.r (RV.c (CV.ptr 1 (Off.k 0) 8)), AV.r (RV.c (CV.ptr 1 (Off.k 1) 1)), AV.r (RV.c (CV.sl 3 (Off.x 0 d.c16.c16.c8.c4.2.2.1 9) (Sz.s d.c16.c16.c8.c4.2.2.2.1) 9 d.c16.c16.c16.1)),
  AV.r (RV.c (fI d.c16.c16.c16.2.1)), AV.r (RV.c (CV.f (FV.b d.c16.c16.c16.2.2.1))),
  AV.r (RV.c (CV.f (FV.b d.c16.c16.c16.2.2.1))), AV.r (RV.c (CV.f (FV.b false))), AV.r (RV.c (CV.ptr 0 (Off.k 0) 8)),
  AV.r (RV.c (fI d.c16.c16.c16.2.2.2.1)), AV.r (RV.c (CV.ptr 1 (Off.k 0) 8)), AV.r (RV.c (CV.ptr 1 (Off.k 0) 8)),
  AV.r (RV.c (CV.ptr 1 (Off.k 2) 1)), AV.r (RV.c (fI d.c16.c16.c16.c4.1)), AV.r (RV.c (CV.f (FV.b d.c16.c16.c16.c4.2.1))),
  AV.r (RV.c (CV.f (FV.b d.c16.c16.c16.c4.2.1))), AV.r (RV.c (CV.f (FV.b false))), AV.r (RV.c (CV.f (FV.b d.c8.c4.1))),
  AV.r (RV.c (CV.ptr 1 (Off.k 0) 8)), AV.r (RV.c (CV.ptr 1 (Off.k 0) 8)), AV.r (RV.c (CV.ptr 1 (Off.k 1) 1)), AV.r (RV.c (CV.sl 3 (Off.x 0 d.c16.c16.c8.c4.2.2.1 9) (Sz.s d.c16.c16.c8.c4.2.2.2.1) 9 d.c16.c16.c16.1)),
  AV.r (RV.c (fI d.c16.c16.c16.2.1)), AV.r (RV.c (CV.f (FV.b d.c16.c16.c16.c4.2.2.1))),
  AV.r (RV.c (CV.f (FV.b d.c16.c16.c16.c4.2.2.2.1))), AV.r (RV.c (CV.f (FV.b d.c16.c16.c16.c4.2.2.2.1))),
  AV.r (RV.c (CV.f (FV.b false))), AV.r (RV.c (CV.f (FV.b d.c8.c4.1))), AV.r (RV.c (CV.f (FV.b false))), AV.tup [], AV.tup [], AV.tup [], AV.tup [], AV.tup [], AV.tup [], AV.tup [], AV.tup [], AV.r (RV.c (CV.f (FV.b false))), AV.r (RV.c (CV.f (FV.b false))),
  AV.r (RV.c (CV.f (FV.b false))), AV.r (RV.c (CV.ptr 0 (Off.k 0) 8)), AV.r (RV.c (CV.ptr 0 (Off.k 0) 8)), AV.r (RV.c (CV.ptr 0 (Off.k 0) 5)), AV.r (RV.c (CV.ptr 0 (Off.k 0) 1)), AV.r (RV.c (fI d.c16.c16.2.2.1)),
  AV.r (RV.c (CV.ptr 0 (Off.k 0) 8)), AV.r (RV.c (CV.ptr 0 (Off.k 0) 8)), AV.r (RV.c (CV.ptr 0 (Off.k 0) 5)), AV.r (RV.agg [Sg.c (fI d.c16.c16.2.2.1), Sg.c (fI d.c16.c16.2.2.2.1),
  Sg.c (fI d.c16.c16.c4.1), Sg.c (fI d.c16.c16.c4.2.1),
  Sg.c (fI d.c16.c16.c4.2.2.1)]), AV.r (RV.c (fI d.c16.c16.c16.c8.1)),
  AV.r (RV.c (CV.ptr 0 (Off.k 0) 8)), AV.r (RV.c (fI d.c16.c16.c16.c8.2.1)),
  AV.r (RV.c (fI d.c16.c16.c16.c8.2.2.1)), AV.r (RV.c (CV.f (FV.b d.c16.c16.c16.c8.2.2.2.1))),
  AV.r (RV.c (CV.f (FV.b d.c16.c16.c16.c8.2.2.2.1)))] [some [Sg.c (fI d.c16.c16.2.2.1),
  Sg.c (fI d.c16.c16.2.2.2.1), Sg.c (fI d.c16.c16.c4.1),
  Sg.c (fI d.c16.c16.c4.2.1), Sg.c (fI d.c16.c16.c4.2.2.1),
  Sg.c (fI d.c16.c16.c16.c8.c4.1), Sg.c (CV.sl 2 (Off.x 0 0 9) (Sz.s d.c16.c16.c16.c8.c4.2.1) 9 d.c16.c16.c16.c8.c4.2.2.1),
  Sg.c (fI d.c16.c16.c16.c8.c4.2.2.2.1)], some [Sg.c (fI d.c16.c16.c16.c16.1),
  Sg.c (CV.sl 3 (Off.x 0 d.c16.c16.c8.c4.2.2.1 9) (Sz.s d.c16.c16.c8.c4.2.2.2.1) 9 d.c16.c16.c16.1),
  Sg.c (fI d.c16.c16.c16.c4.1), Sg.c (fI d.c16.c16.c4.2.2.2.1),
  Sg.c (fI d.c16.c16.c8.1), Sg.c (fI d.c16.c16.c8.2.1),
  Sg.c (fI d.c16.c16.c8.2.2.1), Sg.c (fI d.c16.c16.c8.2.2.2.1)],
  some [Sg.a (Sz.s d.c16.c16.c16.c16.2.1) [kI d.c16.c16.c16.c16.2.2.1,
  kI d.c16.c16.c16.c16.2.2.2.1, kI d.c16.c16.c16.c16.c4.1,
  kI d.c16.c16.c16.c16.c4.2.1,
  kI d.c16.c16.c16.c16.c4.2.2.1,
  kI d.c16.c16.c16.c16.c4.2.2.2.1,
  kI d.c16.c16.c16.c16.c8.1,
  kI d.c16.c16.c16.c16.c8.2.1,
  kI d.c16.c16.c16.c16.c8.2.2.1]],
  some [Sg.a (Sz.s d.c16.c16.c16.c16.c8.2.2.2.1) [kI d.c16.c16.c16.c16.c8.c4.1,
  kI d.c16.c16.c16.c16.c8.c4.2.1,
  kI d.c16.c16.c16.c16.c8.c4.2.2.1,
  kI d.c16.c16.c16.c16.c8.c4.2.2.2.1,
  kI d.c16.c16.c16.c16.c16.1,
  kI d.c16.c16.c16.c16.c16.2.1,
  kI d.c16.c16.c16.c16.c16.2.2.1,
  kI d.c16.c16.c16.c16.c16.2.2.2.1,
  kI d.c16.c16.c16.c16.c16.c4]],
  some [Sg.c (fI d.c16.c8.2.1), Sg.c (fI d.c16.c8.2.2.1), Sg.c (fI d.c16.c8.2.2.2.1),
  Sg.c (fI d.c16.c8.c4.1), Sg.c (fI d.c16.c8.c4.2.1),
  Sg.c (fI d.c16.c8.c4.2.2.1), Sg.c (fI d.c16.c8.c4.2.2.2.1),
  Sg.c (fI d.c16.c16.1), Sg.c (fI d.c16.c16.2.1)]] []))))
theorem ms_astrolabelaw13_RingPlays_2 {ρ σ : Type} (g_astrolabelaw13_awake : Option Bool) (g_ring_New : Int → Option (Unit ⊕ Int × NI)) (g___ring_Buffer__Put : RGPg19) (g_astrolaberef13_Put : RGPg9) (g___ring_Buffer__Pop : RGPg10) (g_astrolaberef13_Pop : RGPg11) (g___ring_Buffer__Spoilt : RGPg12) (g_astrolaberef13_Spoilt : RGPg13) (g___ring_Buffer__Peek : RGPg14) (g___ring_Buffer__Len : RGPg15) (g___ring_Buffer__Horizon : RGPg15) (g__ring_Counts__Total : Int → Int → Int → Int → Int → Option Int) (q : ρ → Option σ) (x0 : Nat) (x1 : Nat → Int) (x2 : Nat →
  Int) (x3 : Nat → Int) (x4 : Nat → Int) (x5 : Nat → Int) (x6 : Nat → Int) (x7 : Nat → Int) (x8 : Nat → Int) (x9 : Nat → Int) (x10 : Nat → Int) (x11 : Int) (x12 : Nat) (x13 : Nat → Int) (x14 : Nat → Int) (x15 : Nat → Int) (x16 : Nat → Int) (x17 : Nat → Int) (x18 : Nat → Int) (x19 : Nat → Int) (x20 : Nat →
  Int) (x21 : Nat → Int) (x22 : Nat → Int) (x23 : Bool) (x24 : Int) (x25 : Int) (x26 : Int) (x27 : Int) (x28 : Int) (x29 : Int) (x30 : Nat) (x31 : Bool) (x32 : Int) (x33 : Int) (x34 : Nat) (x35 : Nat) (x36 : Bool) (x37 : Int) (x38 : Int) (x39 : Int) (x40 : Int) (x41 : Int) (x42 : Int) (x43 : Nat) (x44 : Nat →
  Int) (x45 : Nat → Int) (x46 : Nat → Int) (x47 : Nat → Int) (x48 : Nat → Int) (x49 : Nat → Int) (x50 : Nat → Int) (x51 : Nat → Int) (x52 : Nat → Int) (x53 : Nat) (x54 : Nat → Int) (x55 : Nat → Int) (x56 : Nat → Int) (x57 : Nat → Int) (x58 : Nat → Int) (x59 : Nat → Int) (x60 : Nat → Int) (x61 : Nat → Int) (x62 : Nat →
  Int) (c : (Nat × NI × NI × NI × NI × NI × NI × NI × NI × NI × NI × Int × Nat × NI × NI × NI × NI × NI × NI × NI × NI × NI × (Nat →
  Int) × Bool × Int × Int × Int × Int × Int × Int × Nat × Bool × Int × Int × Nat × Nat × Bool × Int × Int × Int × Int × Int × Int × Nat × NI × NI × NI × NI × NI × NI × NI × NI × NI × Nat × NI × NI × (Nat →
  Int) × NI × NI × NI × NI × NI × NI) → Option ρ) (x : (Unit ⊕ Nat × NI × NI × NI × NI × NI × NI × NI × NI × NI × NI × Int × Bool × Nat × NI × (Nat →
  Int) × NI × NI × NI × NI × NI × NI × NI × NI × Bool × Int × Int × Int × Int × Int × Int × Int × Int × Int × Int × Int × Int × Int × Int × Int × Int × Int × Int × Int × Bool × Int × Nat × Nat × Bool × Int × Bool × Int × Int × Bool ×
  Bool × Bool × Int × Int × Int × Int × Int × Int × Int × Int × Int × Bool × Int × Int × Int × Bool × Int × Nat × Bool × Int × Int × Nat × NI × NI × NI × NI × NI × NI × NI × NI × NI × Nat × NI × NI × (Nat →
  Int) × NI × NI × NI × NI × NI × NI ⊕ Nat × NI × NI × NI × NI × NI × NI × NI × NI × NI × NI × Int × Bool × Nat × NI × NI × NI × (Nat →
  Int) × NI × NI × NI × NI × NI × NI × Bool × Int × Int × Int × Int × Int × Int × Int × Int × Int × Int × Int × Int × Int × Int × Int × Int × Int × Int × Int × Bool × Int × Nat × Nat × Bool × Int × Bool × Int × Int × Bool × Bool × Bool × Int × Int ×
  Int × Bool × Int × Nat × Bool × Int × Int × Nat × NI × NI × NI × NI × NI × NI × NI × NI × NI × Nat × NI × NI × NI × NI × NI × NI × NI × NI × (Nat →
  Int)) → Option ρ) : (S_astrolabelaw13_RingPlays_2 g_astrolabelaw13_awake g_ring_New g___ring_Buffer__Put g_astrolaberef13_Put g___ring_Buffer__Pop g_astrolaberef13_Pop g___ring_Buffer__Spoilt g_astrolaberef13_Spoilt g___ring_Buffer__Peek g___ring_Buffer__Len g___ring_Buffer__Horizon g__ring_Counts__Total x0 x1 x2 x3 x4 x5 x6 x7 x8 x9 x10 x11 x12 x13 x14 x15 x16 x17 x18 x19 x20 x21 x22 x23 x24 x25 x26 x27 x28 x29 x30 x31 x32 x33 x34 x35 x36 x37 x38 x39 x40 x41 x42 x43 x44 x45 x46 x47 x48 x49 x50 x51 x52 x53 x54 x55 x56 x57 x58 x59 x60 x61 x62 c x).bind q = S_astrolabelaw13_RingPlays_2 g_astrolabelaw13_awake g_ring_New g___ring_Buffer__Put g_astrolaberef13_Put g___ring_Buffer__Pop g_astrolaberef13_Pop g___ring_Buffer__Spoilt g_astrolaberef13_Spoilt g___ring_Buffer__Peek g___ring_Buffer__Len g___ring_Buffer__Horizon g__ring_Counts__Total x0 x1 x2 x3 x4 x5 x6 x7 x8 x9 x10 x11 x12 x13 x14 x15 x16 x17 x18 x19 x20 x21 x22 x23 x24 x25 x26 x27 x28 x29 x30 x31 x32 x33 x34 x35 x36 x37 x38 x39 x40 x41 x42 x43 x44 x45 x46 x47 x48 x49 x50 x51 x52 x53 x54 x55 x56 x57 x58 x59 x60 x61 x62 (fun d => (c d).bind q) (fun d => (x d).bind q) := by
  simp only [S_astrolabelaw13_RingPlays_2, bnd_cond, bnd_bind, bnd_none, bnd_sum]
def L_astrolabelaw13_RingPlays_2 {ρ : Type} (d : RGPt25) (k : (Unit ⊕ RGPt26 ⊕ Nat × NI × NI × NI × NI × NI × NI × NI × NI × NI × NI × Int × Bool × Nat × NI × NI ×
  NI × NI × NI × NI × NI × NI × NI × NI × Bool × Int × Int × Int × Int × Int × Int × Int × Int × Int × Int × Int × Int × Int × Int × Int × Int × Int × Int × Int × Bool × Int × Nat × Nat × Bool × Int × Bool × Int × Int × Bool × Bool ×
  Bool × Int × Int × Int × Bool × Int × Nat × Bool × Int × Int × Nat × NI × NI × NI × NI × NI × NI × NI × NI × NI × Nat × NI × NI × NI × NI × NI × NI × NI × (Nat →
  Int) × NI) → Option ρ) : Option ρ := S_astrolabelaw13_RingPlays_2 f_astrolabelaw13_awake f_ring_New f___ring_Buffer__Put f_astrolaberef13_Put f___ring_Buffer__Pop f_astrolaberef13_Pop f___ring_Buffer__Spoilt f_astrolaberef13_Spoilt f___ring_Buffer__Peek f___ring_Buffer__Len f___ring_Buffer__Horizon f__ring_Counts__Total d.1 d.2.1 d.2.2.1 d.2.2.2.1 d.c4.1 d.c4.2.1 d.c4.2.2.1 d.c4.2.2.2.1 d.c8.1 d.c8.2.1 d.c8.2.2.1 d.c8.2.2.2.1 d.c8.c4.1 d.c8.c4.2.1 d.c8.c4.2.2.1 d.c8.c4.2.2.2.1 d.c16.1 d.c16.2.1 d.c16.2.2.1 d.c16.2.2.2.1 d.c16.c4.1 d.c16.c4.2.1 d.c16.c4.2.2.1 d.c16.c4.2.2.2.1 d.c16.c8.1 d.c16.c8.2.1 d.c16.c8.2.2.1 d.c16.c8.2.2.2.1 d.c16.c8.c4.1 d.c16.c8.c4.2.1 d.c16.c8.c4.2.2.1 d.c16.c8.c4.2.2.2.1 d.c16.c16.1 d.c16.c16.2.1 d.c16.c16.2.2.1 d.c16.c16.2.2.2.1 d.c16.c16.c4.1 d.c16.c16.c4.2.1 d.c16.c16.c4.2.2.1 d.c16.c16.c4.2.2.2.1 d.c16.c16.c8.1 d.c16.c16.c8.2.1 d.c16.c16.c8.2.2.1 d.c16.c16.c8.2.2.2.1 d.c16.c16.c8.c4.1 d.c16.c16.c8.c4.2.1 d.c16.c16.c8.c4.2.2.1 d.c16.c16.c8.c4.2.2.2.1 d.c16.c16.c16.1 d.c16.c16.c16.2.1 d.c16.c16.c16.2.2.1 d.c16.c16.c16.2.2.2.1 d.c16.c16.c16.c4.1 d.c16.c16.c16.c4.2.1 d.c16.c16.c16.c4.2.2.1 d.c16.c16.c16.c4.2.2.2.1 d.c16.c16.c16.c8.1 d.c16.c16.c16.c8.2.1 d.c16.c16.c16.c8.2.2.1 d.c16.c16.c16.c8.2.2.2.1 d.c16.c16.c16.c8.c4.1 d.c16.c16.c16.c8.c4.2.1 d.c16.c16.c16.c8.c4.2.2 (fun _ => none) k
theorem mL_astrolabelaw13_RingPlays_2 {ρ σ : Type} (q : ρ → Option σ) (d : Nat × NI × NI × NI × NI × NI × NI × NI × NI × NI × NI × Int × Nat × NI × NI × NI × NI × NI ×
  NI × NI × NI × NI × NI × Bool × Int × Int × Int × Int × Int × Int × Nat × Bool × Int × Int × Nat × Nat × Bool × Int × Int × Int × Int × Int × Int × Nat × NI × NI × NI × NI × NI × NI × NI × (Nat →
  Int) × RGPt27) (k : (Unit ⊕ Nat × NI × NI × NI × NI × NI × NI × NI × NI × NI × (Nat →
  Int) × Int × Bool × Nat × NI × NI × NI × NI × NI × NI × NI × NI × NI × NI × Bool × Int × Int × Int × Int × Int × Int × Int × Int × Int × Int × Int × Int × Int × Int × Int × Int × Int × Int × Int × Bool × Int × Nat ×
  Nat × Bool × Int × Bool × Int × Int × Bool × Bool × Bool × Int × Int × Int × Int × Int × Int × Int × Int × Int × Bool × Int × Int × Int × Bool × Int × Nat × Bool × Int × Int × Nat × NI × NI × NI × NI × NI × NI × NI × NI × (Nat →
  Int) × RGPt7 ⊕ Nat × NI × NI × NI × NI × NI × NI × NI × NI × NI × NI × Int × Bool × Nat ×
  NI × NI × NI × NI × NI × NI × NI × NI × NI × NI × Bool × Int × Int × Int × Int × Int × Int × Int × Int × Int × Int × Int × Int × Int × Int × Int × Int × Int × Int × Int × Bool × Int × Nat × Nat × Bool × Int × Bool ×
  Int × Int × Bool × Bool × Bool × Int × Int × Int × Bool × Int × Nat × Bool × Int × Int × Nat × NI × NI × NI × NI × NI × NI × NI × NI × NI × Nat × NI × NI × NI × NI × NI × (Nat →
  Int) × NI × NI × NI) → Option ρ) : (L_astrolabelaw13_RingPlays_2 d k).bind q = L_astrolabelaw13_RingPlays_2 d fun x => (k x).bind q := ms_astrolabelaw13_RingPlays_2 f_astrolabelaw13_awake f_ring_New f___ring_Buffer__Put f_astrolaberef13_Put f___ring_Buffer__Pop f_astrolaberef13_Pop f___ring_Buffer__Spoilt f_astrolaberef13_Spoilt f___ring_Buffer__Peek f___ring_Buffer__Len f___ring_Buffer__Horizon f__ring_Counts__Total q d.1 d.2.1 d.2.2.1 d.2.2.2.1 d.c4.1 d.c4.2.1 d.c4.2.2.1 d.c4.2.2.2.1 d.c8.1 d.c8.2.1 d.c8.2.2.1 d.c8.2.2.2.1 d.c8.c4.1 d.c8.c4.2.1 d.c8.c4.2.2.1 d.c8.c4.2.2.2.1 d.c16.1 d.c16.2.1 d.c16.2.2.1 d.c16.2.2.2.1 d.c16.c4.1 d.c16.c4.2.1 d.c16.c4.2.2.1 d.c16.c4.2.2.2.1 d.c16.c8.1 d.c16.c8.2.1 d.c16.c8.2.2.1 d.c16.c8.2.2.2.1 d.c16.c8.c4.1 d.c16.c8.c4.2.1 d.c16.c8.c4.2.2.1 d.c16.c8.c4.2.2.2.1 d.c16.c16.1 d.c16.c16.2.1 d.c16.c16.2.2.1 d.c16.c16.2.2.2.1 d.c16.c16.c4.1 d.c16.c16.c4.2.1 d.c16.c16.c4.2.2.1 d.c16.c16.c4.2.2.2.1 d.c16.c16.c8.1 d.c16.c16.c8.2.1 d.c16.c16.c8.2.2.1 d.c16.c16.c8.2.2.2.1 d.c16.c16.c8.c4.1 d.c16.c16.c8.c4.2.1 d.c16.c16.c8.c4.2.2.1 d.c16.c16.c8.c4.2.2.2.1 d.c16.c16.c16.1 d.c16.c16.c16.2.1 d.c16.c16.c16.2.2.1 d.c16.c16.c16.2.2.2.1 d.c16.c16.c16.c4.1 d.c16.c16.c16.c4.2.1 d.c16.c16.c16.c4.2.2.1 d.c16.c16.c16.c4.2.2.2.1 d.c16.c16.c16.c8.1 d.c16.c16.c16.c8.2.1 d.c16.c16.c16.c8.2.2.1 d.c16.c16.c16.c8.2.2.2.1 d.c16.c16.c16.c8.c4.1 d.c16.c16.c16.c8.c4.2.1 d.c16.c16.c16.c8.c4.2.2 (fun _ => none) k
def S_astrolabelaw13_RingPlays_0 {ρ : Type} (g_astrolabelaw13_awake : Option Bool) (g_ring_New : Int → Option (Unit ⊕ Int × NI)) (g___ring_Buffer__Put : RGPg8) (g_astrolaberef13_Put : RGPg9) (g___ring_Buffer__Pop : RGPg10) (g_astrolaberef13_Pop : RGPg11) (g___ring_Buffer__Spoilt : RGPg12) (g_astrolaberef13_Spoilt : RGPg13) (g___ring_Buffer__Peek : RGPg14) (g___ring_Buffer__Len : RGPg15) (g___ring_Buffer__Horizon : RGPg15) (g__ring_Counts__Total : Int → Int → Int → Int → Int → Option Int) (l_1 : ∀ {ρ : Type}, (Nat × NI × NI × (Nat →
  Int) × RGPt28) →
  ((Unit ⊕ Nat × NI × NI × NI × NI × NI × NI × NI × NI × NI × NI × Int × Nat × Nat × Int × Nat × NI × NI × NI × NI × NI × NI × NI × NI × (Nat →
  Int) × RGPt29) → Option ρ) → Option ρ) (l_2 : ∀ {ρ : Type}, (Nat × NI × NI × NI × NI × NI × NI × NI × NI × NI × NI × Int × Nat × NI × NI ×
  NI × NI × NI × NI × NI × NI × NI × NI × Bool × Int × Int × Int × Int × Int × Int × Nat × Bool × Int × Int × Nat × Nat × Bool × Int × Int × Int × Int × Int × Int × Nat × NI × NI × NI × NI × (Nat →
  Int) × RGPt21) → ((Unit ⊕ Nat × NI × NI × NI × NI × NI × NI × (Nat →
  Int) × NI × NI × NI × Int × Bool × Nat × NI × NI × NI × NI × NI × NI × NI × NI × NI × NI × Bool × Int × Int × Int × Int × Int × Int × Int × Int × Int × Int × Int × Int × Int × Int × Int ×
  Int × Int × Int × Int × Bool × Int × Nat × Nat × Bool × Int × Bool × Int × Int × Bool × Bool × Bool × Int × Int × Int × Int × Int × Int × Int × Int × Int × Bool × Int × Int × Int × Bool × Int × Nat × Bool × Int × Int × Nat × NI × NI × NI × NI × NI × (Nat →
  Int) × RGPt30 ⊕ Nat × NI × NI × NI × NI × NI × NI × NI × NI × (Nat →
  Int) × NI × Int × Bool × Nat × NI × NI × NI × NI × NI × NI × NI × NI × NI × NI × Bool × Int × Int × Int × Int × Int × Int × Int × Int × Int × Int × Int × Int × Int × Int × Int × Int × Int × Int × Int ×
  Bool × Int × Nat × Nat × Bool × Int × Bool × Int × Int × Bool × Bool × Bool × Int × Int × Int × Bool × Int × Nat × Bool × Int × Int × Nat × NI × NI × NI × NI × NI × NI × NI × NI × NI × Nat × NI × NI × (Nat →
  Int) × NI × NI × NI × NI × NI × NI) → Option ρ) → Option ρ) (x0 : Nat) (x1 : Nat → Int) (x2 : Nat → Int) (x3 : Nat → Int) (x4 : Nat → Int) (x5 : Nat → Int) (x6 : Nat → Int) (x7 : Nat → Int) (x8 : Nat → Int) (x9 : Nat → Int) (x10 : Nat → Int) (x11 : Int) (x12 : Int) (x13 : Int) (x14 : Int) (x15 : Int) (x16 : Int) (x17 : Int) (x18 : Nat) (x19 : Bool) (x20 : Int) (x21 : Int) (x22 : Nat) (x23 : Nat) (x24 : Bool) (x25 : Int) (x26 : Int) (x27 : Int) (x28 : Int) (x29 : Int) (x30 : Int) (x31 : Nat) (x32 : Nat →
  Int) (x33 : Nat → Int) (x34 : Nat → Int) (x35 : Nat → Int) (x36 : Nat → Int) (x37 : Nat → Int) (x38 : Nat → Int) (x39 : Nat → Int) (x40 : Nat → Int) (x41 : Nat) (x42 : Nat → Int) (x43 : Nat → Int) (x44 : Nat → Int) (x45 : Nat → Int) (x46 : Nat → Int) (x47 : Nat → Int) (x48 : Nat → Int) (x49 : Nat → Int) (x50 : Nat →
  Int) (c : (Nat × NI × NI × NI × NI × NI × NI × NI × NI × NI × NI × Int × Int × Int × Int × Int × Int × Int × Nat × Bool × Int × Int × Nat × Nat × Bool × Int × Int × Int × Int × Int × Int × Nat × NI × (Nat →
  Int) × RGPt31) → Option ρ) (x : (Unit ⊕ Nat × NI × NI × (Nat →
  Int) × RGPt32) → Option ρ) : Option ρ := bif decide (x11 < Int.ofNat x0) then bif inR x11 x0 then bif x1 (Int.toNat x11) == 0 then
  bif inR x11 x0 then bif Nat.beq x18 x18 then Option.bind (g___ring_Buffer__Put (x2 (Int.toNat x11)) (x3 (Int.toNat x11)) (x4 (Int.toNat x11)) (x5 (Int.toNat x11)) (x6 (Int.toNat x11)) (x7 (Int.toNat x11)) (x8 (Int.toNat x11)) (x9 (Int.toNat x11)) (x10 (Int.toNat x11)) x12 x13 x14 x15 x16 x17 x18 x20 (fun (j : Nat) => x32 (0 + j)) (fun (j : Nat) => x33 (0 + j)) (fun (j : Nat) => x34 (0 + j)) (fun (j : Nat) => x35 (0 + j)) (fun (j : Nat) => x36 (0 + j)) (fun (j : Nat) => x37 (0 + j)) (fun (j : Nat) => x38 (0 + j)) (fun (j : Nat) => x39 (0 + j)) (fun (j : Nat) => x40 (0 + j)) (x19 && true)) fun (d : RGPt0 ⊕ RGPt1) => bif match d with | Sum.inl val => true | Sum.inr val => false then Option.bind (match d with | Sum.inl a => some a | Sum.inr val => none) fun (d : RGPt0) => bif inR x11 x0 then bif Nat.beq x23 x23 then Option.bind (g_astrolaberef13_Put (x2 (Int.toNat x11)) (x3 (Int.toNat x11)) (x4 (Int.toNat x11)) (x5 (Int.toNat x11)) (x6 (Int.toNat x11)) (x7 (Int.toNat x11)) (x8 (Int.toNat x11)) (x9 (Int.toNat x11)) (x10 (Int.toNat x11)) x21 x23 x25 x26 x27 x28 x29 x30 (fun (j : Nat) => x42 (x22 + j)) (fun (j : Nat) => x43 (x22 + j)) (fun (j : Nat) => x44 (x22 + j)) (fun (j : Nat) => x45 (x22 + j)) (fun (j : Nat) => x46 (x22 + j)) (fun (j : Nat) => x47 (x22 + j)) (fun (j : Nat) => x48 (x22 + j)) (fun (j : Nat) => x49 (x22 + j)) (fun (j : Nat) => x50 (x22 + j)) (x24 && true)) fun (d_1 : RGPt2 ⊕ RGPt3 ⊕ Int × Nat × Int × Int × Int × Int × Int × Int × NI × (Nat →
  Int) × NI × NI × NI × NI × NI × NI × NI) => bif match d_1 with | Sum.inl val => true | Sum.inr val => false then Option.bind (match d_1 with | Sum.inl a => some a | Sum.inr val => none) fun (d_2 : RGPt2) => l_2 (x0, x1, x2, x3, x4, x5, x6, x7, x8, x9, x10, x11, x0, x1, x2, x3, x4, x5, x6, x7, x8, x9, x10, x1 (Int.toNat x11) == 0, d.1, d.2.1, d.2.2.1, d.2.2.2.1, d.c4.1, d.c4.2.1, d.c4.2.2.1, d.c4.2.2.2.1 && (x19 && true),
  d.c8, d_2.1, x22, d_2.2.1, d_2.2.2.1 && (x24 && true), d_2.2.2.2.1, d_2.c4.1, d_2.c4.2.1, d_2.c4.2.2.1, d_2.c4.2.2.2.1, d_2.c8, x31, x32, x33, x34, x35,
  x36, x37, x38, x39, x40, x41, x42, x43, x44, x45, x46, x47, x48, x49, x50) (Sum.elim (fun (d : Unit) => x (Sum.inl ())) (Sum.elim (fun (d : RGPt26) => c (d.1, d.2.1, d.2.2.1, d.2.2.2.1, d.c4.1, d.c4.2.1, d.c4.2.2.1, d.c4.2.2.2.1, d.c8.1,
  d.c8.2.1, d.c8.2.2.1, IntKind.wrap IntKind.i64 (d.c8.2.2.2.1 + 1), d.c16.c16.2.2.1,
  d.c16.c16.2.2.2.1, d.c16.c16.c4.1, d.c16.c16.c4.2.1,
  d.c16.c16.c4.2.2.1, d.c16.c16.c16.c16.c4.2.2.1,
  d.c16.c16.c16.c16.c4.2.2.2.1, d.c16.c16.c16.c16.c8.1,
  d.c16.c16.c16.c16.c8.2.1, d.c16.c16.c16.c16.c8.2.2.1,
  d.c16.c16.c8.c4.2.2.1, d.c16.c16.c8.c4.2.2.2.1,
  d.c16.c16.c16.1, d.c16.c16.c16.c4.1,
  d.c16.c16.c4.2.2.2.1, d.c16.c16.c8.1,
  d.c16.c16.c8.2.1, d.c16.c16.c8.2.2.1,
  d.c16.c16.c8.2.2.2.1, d.c16.c16.c16.c16.c8.2.2.2.1,
  d.c16.c16.c16.c16.c8.c4.1,
  d.c16.c16.c16.c16.c8.c4.2.1,
  d.c16.c16.c16.c16.c8.c4.2.2.1,
  d.c16.c16.c16.c16.c8.c4.2.2.2.1,
  d.c16.c16.c16.c16.c16.1,
  d.c16.c16.c16.c16.c16.2.1,
  d.c16.c16.c16.c16.c16.2.2.1,
  d.c16.c16.c16.c16.c16.2.2.2.1,
  d.c16.c16.c16.c16.c16.c4.1,
  d.c16.c16.c16.c16.c16.c4.2.1,
  d.c16.c16.c16.c16.c16.c4.2.2.1,
  d.c16.c16.c16.c16.c16.c4.2.2.2.1,
  d.c16.c16.c16.c16.c16.c8.1,
  d.c16.c16.c16.c16.c16.c8.2.1,
  d.c16.c16.c16.c16.c16.c8.2.2.1,
  d.c16.c16.c16.c16.c16.c8.2.2.2.1,
  d.c16.c16.c16.c16.c16.c8.c4.1,
  d.c16.c16.c16.c16.c16.c8.c4.2.1,
  d.c16.c16.c16.c16.c16.c8.c4.2.2)) fun (d : Nat ×
  NI × NI × NI × NI × NI × NI × NI × NI × NI × NI × Int × Bool × Nat × NI × NI × NI × NI × NI × NI × NI × NI × NI × NI × Bool ×
  Int × Int × Int × Int × Int × Int × Int × Int × Int × Int × Int × Int × Int × Int × Int × Int × Int × Int × Int × Bool × Int × Nat × Nat × Bool × Int × Bool × Int × Int × Bool × Bool × Bool × Int × Int × Int × Bool × Int × Nat × Bool × Int × Int × Nat × NI × NI × NI × (Nat →
  Int) × RGPt33) => c (d.1, d.2.1, d.2.2.1, d.2.2.2.1, d.c4.1, d.c4.2.1,
  d.c4.2.2.1, d.c4.2.2.2.1, d.c8.1, d.c8.2.1, d.c8.2.2.1, IntKind.wrap IntKind.i64 (d.c8.2.2.2.1 + 1), d.c16.c16.2.2.1,
  d.c16.c16.2.2.2.1, d.c16.c16.c4.1, d.c16.c16.c4.2.1,
  d.c16.c16.c4.2.2.1, d.c16.c16.c16.c8.c4.1,
  d.c16.c16.c16.c8.c4.2.1, d.c16.c16.c16.c8.c4.2.2.1,
  d.c16.c16.c16.c8.c4.2.2.2.1, d.c16.c16.c16.c16.1,
  d.c16.c16.c8.c4.2.2.1, d.c16.c16.c8.c4.2.2.2.1,
  d.c16.c16.c16.1, d.c16.c16.c16.c4.1,
  d.c16.c16.c4.2.2.2.1, d.c16.c16.c8.1,
  d.c16.c16.c8.2.1, d.c16.c16.c8.2.2.1,
  d.c16.c16.c8.2.2.2.1, d.c16.c16.c16.c16.2.1,
  d.c16.c16.c16.c16.2.2.1, d.c16.c16.c16.c16.2.2.2.1,
  d.c16.c16.c16.c16.c4.1, d.c16.c16.c16.c16.c4.2.1,
  d.c16.c16.c16.c16.c4.2.2.1, d.c16.c16.c16.c16.c4.2.2.2.1,
  d.c16.c16.c16.c16.c8.1, d.c16.c16.c16.c16.c8.2.1,
  d.c16.c16.c16.c16.c8.2.2.1,
  d.c16.c16.c16.c16.c8.2.2.2.1,
  d.c16.c16.c16.c16.c8.c4.1,
  d.c16.c16.c16.c16.c8.c4.2.1,
  d.c16.c16.c16.c16.c8.c4.2.2.1,
  d.c16.c16.c16.c16.c8.c4.2.2.2.1,
  d.c16.c16.c16.c16.c16.1,
  d.c16.c16.c16.c16.c16.2.1,
  d.c16.c16.c16.c16.c16.2.2.1,
  d.c16.c16.c16.c16.c16.2.2.2.1,
  d.c16.c16.c16.c16.c16.c4))) else
  Option.bind (match d_1 with | Sum.inr b => some b | Sum.inl val => none) fun (d_2 : RGPt3 ⊕ RGPt34) => bif match d_2 with | Sum.inl val => true | Sum.inr val => false then Option.bind (match d_2 with | Sum.inl a => some a | Sum.inr val => none) fun (d_3 : RGPt3) => bif !false == d_3.1 then x (Sum.inl ()) else l_2 (x0, x1, x2, x3, x4, x5, x6, x7, x8, x9, x10, x11, x0, x1, x2, x3, x4,
  x5, x6, x7, x8, x9, x10, x1 (Int.toNat x11) == 0, d.1, d.2.1, d.2.2.1, d.2.2.2.1, d.c4.1, d.c4.2.1, d.c4.2.2.1, d.c4.2.2.2.1 && (x19 && true), d.c8, d_3.2.1, 1, d_3.2.2.1,
  true, d_3.2.2.2.1, d_3.c4.1, d_3.c4.2.1, d_3.c4.2.2.1, d_3.c4.2.2.2.1, d_3.c8.1, x31, x32, x33, x34, x35, x36, x37, x38, x39, x40, d_3.c8.2.1, d_3.c8.2.2.1,
  d_3.c8.2.2.2.1, d_3.c8.c4.1, d_3.c8.c4.2.1, d_3.c8.c4.2.2.1, d_3.c8.c4.2.2.2.1, d_3.c16.1,
  d_3.c16.2.1, d_3.c16.2.2) (Sum.elim (fun (d : Unit) => x (Sum.inl ())) (Sum.elim (fun (d : RGPt26) => c (d.1, d.2.1, d.2.2.1, d.2.2.2.1, d.c4.1, d.c4.2.1, d.c4.2.2.1,
  d.c4.2.2.2.1, d.c8.1, d.c8.2.1, d.c8.2.2.1, IntKind.wrap IntKind.i64 (d.c8.2.2.2.1 + 1), d.c16.c16.2.2.1,
  d.c16.c16.2.2.2.1, d.c16.c16.c4.1, d.c16.c16.c4.2.1,
  d.c16.c16.c4.2.2.1, d.c16.c16.c16.c16.c4.2.2.1,
  d.c16.c16.c16.c16.c4.2.2.2.1, d.c16.c16.c16.c16.c8.1,
  d.c16.c16.c16.c16.c8.2.1, d.c16.c16.c16.c16.c8.2.2.1,
  d.c16.c16.c8.c4.2.2.1, d.c16.c16.c8.c4.2.2.2.1,
  d.c16.c16.c16.1, d.c16.c16.c16.c4.1,
  d.c16.c16.c4.2.2.2.1, d.c16.c16.c8.1,
  d.c16.c16.c8.2.1, d.c16.c16.c8.2.2.1,
  d.c16.c16.c8.2.2.2.1, d.c16.c16.c16.c16.c8.2.2.2.1,
  d.c16.c16.c16.c16.c8.c4.1,
  d.c16.c16.c16.c16.c8.c4.2.1,
  d.c16.c16.c16.c16.c8.c4.2.2.1,
  d.c16.c16.c16.c16.c8.c4.2.2.2.1,
  d.c16.c16.c16.c16.c16.1,
  d.c16.c16.c16.c16.c16.2.1,
  d.c16.c16.c16.c16.c16.2.2.1,
  d.c16.c16.c16.c16.c16.2.2.2.1,
  d.c16.c16.c16.c16.c16.c4.1,
  d.c16.c16.c16.c16.c16.c4.2.1,
  d.c16.c16.c16.c16.c16.c4.2.2.1,
  d.c16.c16.c16.c16.c16.c4.2.2.2.1,
  d.c16.c16.c16.c16.c16.c8.1,
  d.c16.c16.c16.c16.c16.c8.2.1,
  d.c16.c16.c16.c16.c16.c8.2.2.1,
  d.c16.c16.c16.c16.c16.c8.2.2.2.1,
  d.c16.c16.c16.c16.c16.c8.c4.1,
  d.c16.c16.c16.c16.c16.c8.c4.2.1,
  d.c16.c16.c16.c16.c16.c8.c4.2.2)) fun (d : Nat ×
  NI × NI × NI × NI × NI × NI × NI × NI × NI × NI × Int × Bool × Nat × NI × NI × NI × NI × NI × NI × NI × NI × NI × NI × Bool ×
  Int × Int × Int × Int × Int × Int × Int × Int × Int × Int × Int × Int × Int × Int × Int × Int × Int × Int × Int × Bool × Int × Nat × Nat × Bool × Int × Bool × Int × Int × Bool × Bool × Bool × Int × Int × Int × Bool × Int × Nat × Bool × Int × Int × Nat × NI × NI × NI × (Nat →
  Int) × RGPt33) => c (d.1, d.2.1, d.2.2.1, d.2.2.2.1, d.c4.1, d.c4.2.1,
  d.c4.2.2.1, d.c4.2.2.2.1, d.c8.1, d.c8.2.1, d.c8.2.2.1, IntKind.wrap IntKind.i64 (d.c8.2.2.2.1 + 1), d.c16.c16.2.2.1,
  d.c16.c16.2.2.2.1, d.c16.c16.c4.1, d.c16.c16.c4.2.1,
  d.c16.c16.c4.2.2.1, d.c16.c16.c16.c8.c4.1,
  d.c16.c16.c16.c8.c4.2.1, d.c16.c16.c16.c8.c4.2.2.1,
  d.c16.c16.c16.c8.c4.2.2.2.1, d.c16.c16.c16.c16.1,
  d.c16.c16.c8.c4.2.2.1, d.c16.c16.c8.c4.2.2.2.1,
  d.c16.c16.c16.1, d.c16.c16.c16.c4.1,
  d.c16.c16.c4.2.2.2.1, d.c16.c16.c8.1,
  d.c16.c16.c8.2.1, d.c16.c16.c8.2.2.1,
  d.c16.c16.c8.2.2.2.1, d.c16.c16.c16.c16.2.1,
  d.c16.c16.c16.c16.2.2.1, d.c16.c16.c16.c16.2.2.2.1,
  d.c16.c16.c16.c16.c4.1, d.c16.c16.c16.c16.c4.2.1,
  d.c16.c16.c16.c16.c4.2.2.1, d.c16.c16.c16.c16.c4.2.2.2.1,
  d.c16.c16.c16.c16.c8.1, d.c16.c16.c16.c16.c8.2.1,
  d.c16.c16.c16.c16.c8.2.2.1,
  d.c16.c16.c16.c16.c8.2.2.2.1,
  d.c16.c16.c16.c16.c8.c4.1,
  d.c16.c16.c16.c16.c8.c4.2.1,
  d.c16.c16.c16.c16.c8.c4.2.2.1,
  d.c16.c16.c16.c16.c8.c4.2.2.2.1,
  d.c16.c16.c16.c16.c16.1,
  d.c16.c16.c16.c16.c16.2.1,
  d.c16.c16.c16.c16.c16.2.2.1,
  d.c16.c16.c16.c16.c16.2.2.2.1,
  d.c16.c16.c16.c16.c16.c4))) else
  Option.bind (match d_2 with | Sum.inr b => some b | Sum.inl val => none) fun (d : RGPt34) => x (Sum.inl ()) else none else none else Option.bind (match d with | Sum.inr b => some b | Sum.inl val => none) fun (d : RGPt1) => bif inR x11 x0 then bif Nat.beq x23 x23 then Option.bind (g_astrolaberef13_Put (x2 (Int.toNat x11)) (x3 (Int.toNat x11)) (x4 (Int.toNat x11)) (x5 (Int.toNat x11)) (x6 (Int.toNat x11)) (x7 (Int.toNat x11)) (x8 (Int.toNat x11)) (x9 (Int.toNat x11)) (x10 (Int.toNat x11)) x21 x23 x25 x26 x27 x28 x29 x30 (fun (j : Nat) => x42 (x22 + j)) (fun (j : Nat) => x43 (x22 + j)) (fun (j : Nat) => x44 (x22 + j)) (fun (j : Nat) => x45 (x22 + j)) (fun (j : Nat) => x46 (x22 + j)) (fun (j : Nat) => x47 (x22 + j)) (fun (j : Nat) => x48 (x22 + j)) (fun (j : Nat) => x49 (x22 + j)) (fun (j : Nat) => x50 (x22 + j)) (x24 && true)) fun (d_1 : RGPt2 ⊕ RGPt3 ⊕ Int × Nat × Int × Int × Int × Int × Int × Int × NI × (Nat →
  Int) × NI × NI × NI × NI × NI × NI × NI) => bif match d_1 with | Sum.inl val => true | Sum.inr val => false then Option.bind (match d_1 with | Sum.inl a => some a | Sum.inr val => none) fun (d_2 : RGPt2) => bif !d.1 == false then x (Sum.inl ()) else l_2 (x0, x1, x2, x3, x4, x5, x6, x7, x8, x9, x10, x11, x0, x1, x2, x3, x4, x5, x6, x7, x8, x9, x10, x1 (Int.toNat x11) == 0, d.2.1, d.2.2.1, d.2.2.2.1, d.c4.1, d.c4.2.1, d.c4.2.2.1,
  d.c4.2.2.2.1, true, d.c8.1, d_2.1, x22, d_2.2.1, d_2.2.2.1 && (x24 && true), d_2.2.2.2.1, d_2.c4.1, d_2.c4.2.1, d_2.c4.2.2.1, d_2.c4.2.2.2.1, d_2.c8,
  d.c4.2.2.2.1, d.c8.2.1, d.c8.2.2.1, d.c8.2.2.2.1, d.c8.c4.1, d.c8.c4.2.1, d.c8.c4.2.2.1,
  d.c8.c4.2.2.2.1, d.c16.1, d.c16.2, x41, x42, x43, x44, x45, x46, x47, x48, x49, x50) (Sum.elim (fun (d : Unit) => x (Sum.inl ())) (Sum.elim (fun (d : RGPt26) => c (d.1, d.2.1, d.2.2.1,
  d.2.2.2.1, d.c4.1, d.c4.2.1, d.c4.2.2.1, d.c4.2.2.2.1, d.c8.1, d.c8.2.1, d.c8.2.2.1, IntKind.wrap IntKind.i64 (d.c8.2.2.2.1 + 1),
  d.c16.c16.2.2.1, d.c16.c16.2.2.2.1, d.c16.c16.c4.1,
  d.c16.c16.c4.2.1, d.c16.c16.c4.2.2.1,
  d.c16.c16.c16.c16.c4.2.2.1, d.c16.c16.c16.c16.c4.2.2.2.1,
  d.c16.c16.c16.c16.c8.1, d.c16.c16.c16.c16.c8.2.1,
  d.c16.c16.c16.c16.c8.2.2.1,
  d.c16.c16.c8.c4.2.2.1, d.c16.c16.c8.c4.2.2.2.1,
  d.c16.c16.c16.1, d.c16.c16.c16.c4.1,
  d.c16.c16.c4.2.2.2.1, d.c16.c16.c8.1,
  d.c16.c16.c8.2.1, d.c16.c16.c8.2.2.1,
  d.c16.c16.c8.2.2.2.1, d.c16.c16.c16.c16.c8.2.2.2.1,
  d.c16.c16.c16.c16.c8.c4.1,
  d.c16.c16.c16.c16.c8.c4.2.1,
  d.c16.c16.c16.c16.c8.c4.2.2.1,
  d.c16.c16.c16.c16.c8.c4.2.2.2.1,
  d.c16.c16.c16.c16.c16.1,
  d.c16.c16.c16.c16.c16.2.1,
  d.c16.c16.c16.c16.c16.2.2.1,
  d.c16.c16.c16.c16.c16.2.2.2.1,
  d.c16.c16.c16.c16.c16.c4.1,
  d.c16.c16.c16.c16.c16.c4.2.1,
  d.c16.c16.c16.c16.c16.c4.2.2.1,
  d.c16.c16.c16.c16.c16.c4.2.2.2.1,
  d.c16.c16.c16.c16.c16.c8.1,
  d.c16.c16.c16.c16.c16.c8.2.1,
  d.c16.c16.c16.c16.c16.c8.2.2.1,
  d.c16.c16.c16.c16.c16.c8.2.2.2.1,
  d.c16.c16.c16.c16.c16.c8.c4.1,
  d.c16.c16.c16.c16.c16.c8.c4.2.1,
  d.c16.c16.c16.c16.c16.c8.c4.2.2)) fun (d : Nat ×
  NI × NI × NI × NI × NI × NI × NI × NI × NI × NI × Int × Bool × Nat × NI × NI × NI × NI × NI × NI × NI × NI × NI × NI × Bool ×
  Int × Int × Int × Int × Int × Int × Int × Int × Int × Int × Int × Int × Int × Int × Int × Int × Int × Int × Int × Bool × Int × Nat × Nat × Bool × Int × Bool × Int × Int × Bool × Bool × Bool × Int × Int × Int × Bool × Int × Nat × Bool × Int × Int × Nat × NI × NI × NI × (Nat →
  Int) × RGPt33) => c (d.1, d.2.1, d.2.2.1, d.2.2.2.1, d.c4.1, d.c4.2.1,
  d.c4.2.2.1, d.c4.2.2.2.1, d.c8.1, d.c8.2.1, d.c8.2.2.1, IntKind.wrap IntKind.i64 (d.c8.2.2.2.1 + 1), d.c16.c16.2.2.1,
  d.c16.c16.2.2.2.1, d.c16.c16.c4.1, d.c16.c16.c4.2.1,
  d.c16.c16.c4.2.2.1, d.c16.c16.c16.c8.c4.1,
  d.c16.c16.c16.c8.c4.2.1, d.c16.c16.c16.c8.c4.2.2.1,
  d.c16.c16.c16.c8.c4.2.2.2.1, d.c16.c16.c16.c16.1,
  d.c16.c16.c8.c4.2.2.1, d.c16.c16.c8.c4.2.2.2.1,
  d.c16.c16.c16.1, d.c16.c16.c16.c4.1,
  d.c16.c16.c4.2.2.2.1, d.c16.c16.c8.1,
  d.c16.c16.c8.2.1, d.c16.c16.c8.2.2.1,
  d.c16.c16.c8.2.2.2.1, d.c16.c16.c16.c16.2.1,
  d.c16.c16.c16.c16.2.2.1, d.c16.c16.c16.c16.2.2.2.1,
  d.c16.c16.c16.c16.c4.1, d.c16.c16.c16.c16.c4.2.1,
  d.c16.c16.c16.c16.c4.2.2.1, d.c16.c16.c16.c16.c4.2.2.2.1,
  d.c16.c16.c16.c16.c8.1, d.c16.c16.c16.c16.c8.2.1,
  d.c16.c16.c16.c16.c8.2.2.1,
  d.c16.c16.c16.c16.c8.2.2.2.1,
  d.c16.c16.c16.c16.c8.c4.1,
  d.c16.c16.c16.c16.c8.c4.2.1,
  d.c16.c16.c16.c16.c8.c4.2.2.1,
  d.c16.c16.c16.c16.c8.c4.2.2.2.1,
  d.c16.c16.c16.c16.c16.1,
  d.c16.c16.c16.c16.c16.2.1,
  d.c16.c16.c16.c16.c16.2.2.1,
  d.c16.c16.c16.c16.c16.2.2.2.1,
  d.c16.c16.c16.c16.c16.c4))) else
  Option.bind (match d_1 with | Sum.inr b => some b | Sum.inl val => none) fun (d_2 : RGPt3 ⊕ RGPt34) => bif match d_2 with | Sum.inl val => true | Sum.inr val => false then Option.bind (match d_2 with | Sum.inl a => some a | Sum.inr val => none) fun (d_3 : RGPt3) => bif !d.1 == d_3.1 then x (Sum.inl ()) else l_2 (x0, x1, x2, x3, x4, x5, x6, x7, x8, x9, x10, x11, x0, x1, x2, x3, x4,
  x5, x6, x7, x8, x9, x10, x1 (Int.toNat x11) == 0, d.2.1, d.2.2.1, d.2.2.2.1, d.c4.1, d.c4.2.1, d.c4.2.2.1, d.c4.2.2.2.1, true, d.c8.1, d_3.2.1, 1, d_3.2.2.1, true, d_3.2.2.2.1,
  d_3.c4.1, d_3.c4.2.1, d_3.c4.2.2.1, d_3.c4.2.2.2.1, d_3.c8.1, d.c4.2.2.2.1, d.c8.2.1, d.c8.2.2.1, d.c8.2.2.2.1,
  d.c8.c4.1, d.c8.c4.2.1, d.c8.c4.2.2.1, d.c8.c4.2.2.2.1, d.c16.1,
  d.c16.2, d_3.c8.2.1, d_3.c8.2.2.1, d_3.c8.2.2.2.1, d_3.c8.c4.1, d_3.c8.c4.2.1,
  d_3.c8.c4.2.2.1, d_3.c8.c4.2.2.2.1, d_3.c16.1, d_3.c16.2.1, d_3.c16.2.2) (Sum.elim (fun (d : Unit) => x (Sum.inl ())) (Sum.elim (fun (d : RGPt26) => c (d.1, d.2.1, d.2.2.1,
  d.2.2.2.1, d.c4.1, d.c4.2.1, d.c4.2.2.1, d.c4.2.2.2.1, d.c8.1, d.c8.2.1, d.c8.2.2.1, IntKind.wrap IntKind.i64 (d.c8.2.2.2.1 + 1),
  d.c16.c16.2.2.1, d.c16.c16.2.2.2.1, d.c16.c16.c4.1,
  d.c16.c16.c4.2.1, d.c16.c16.c4.2.2.1,
  d.c16.c16.c16.c16.c4.2.2.1, d.c16.c16.c16.c16.c4.2.2.2.1,
  d.c16.c16.c16.c16.c8.1, d.c16.c16.c16.c16.c8.2.1,
  d.c16.c16.c16.c16.c8.2.2.1,
  d.c16.c16.c8.c4.2.2.1, d.c16.c16.c8.c4.2.2.2.1,
  d.c16.c16.c16.1, d.c16.c16.c16.c4.1,
  d.c16.c16.c4.2.2.2.1, d.c16.c16.c8.1,
  d.c16.c16.c8.2.1, d.c16.c16.c8.2.2.1,
  d.c16.c16.c8.2.2.2.1, d.c16.c16.c16.c16.c8.2.2.2.1,
  d.c16.c16.c16.c16.c8.c4.1,
  d.c16.c16.c16.c16.c8.c4.2.1,
  d.c16.c16.c16.c16.c8.c4.2.2.1,
  d.c16.c16.c16.c16.c8.c4.2.2.2.1,
  d.c16.c16.c16.c16.c16.1,
  d.c16.c16.c16.c16.c16.2.1,
  d.c16.c16.c16.c16.c16.2.2.1,
  d.c16.c16.c16.c16.c16.2.2.2.1,
  d.c16.c16.c16.c16.c16.c4.1,
  d.c16.c16.c16.c16.c16.c4.2.1,
  d.c16.c16.c16.c16.c16.c4.2.2.1,
  d.c16.c16.c16.c16.c16.c4.2.2.2.1,
  d.c16.c16.c16.c16.c16.c8.1,
  d.c16.c16.c16.c16.c16.c8.2.1,
  d.c16.c16.c16.c16.c16.c8.2.2.1,
  d.c16.c16.c16.c16.c16.c8.2.2.2.1,
  d.c16.c16.c16.c16.c16.c8.c4.1,
  d.c16.c16.c16.c16.c16.c8.c4.2.1,
  d.c16.c16.c16.c16.c16.c8.c4.2.2)) fun (d : Nat ×
  NI × NI × NI × NI × NI × NI × NI × NI × NI × NI × Int × Bool × Nat × NI × NI × NI × NI × NI × NI × NI × NI × NI × NI × Bool ×
  Int × Int × Int × Int × Int × Int × Int × Int × Int × Int × Int × Int × Int × Int × Int × Int × Int × Int × Int × Bool × Int × Nat × Nat × Bool × Int × Bool × Int × Int × Bool × Bool × Bool × Int × Int × Int × Bool × Int × Nat × Bool × Int × Int × Nat × NI × NI × NI × (Nat →
  Int) × RGPt33) => c (d.1, d.2.1, d.2.2.1, d.2.2.2.1, d.c4.1, d.c4.2.1,
  d.c4.2.2.1, d.c4.2.2.2.1, d.c8.1, d.c8.2.1, d.c8.2.2.1, IntKind.wrap IntKind.i64 (d.c8.2.2.2.1 + 1), d.c16.c16.2.2.1,
  d.c16.c16.2.2.2.1, d.c16.c16.c4.1, d.c16.c16.c4.2.1,
  d.c16.c16.c4.2.2.1, d.c16.c16.c16.c8.c4.1,
  d.c16.c16.c16.c8.c4.2.1, d.c16.c16.c16.c8.c4.2.2.1,
  d.c16.c16.c16.c8.c4.2.2.2.1, d.c16.c16.c16.c16.1,
  d.c16.c16.c8.c4.2.2.1, d.c16.c16.c8.c4.2.2.2.1,
  d.c16.c16.c16.1, d.c16.c16.c16.c4.1,
  d.c16.c16.c4.2.2.2.1, d.c16.c16.c8.1,
  d.c16.c16.c8.2.1, d.c16.c16.c8.2.2.1,
  d.c16.c16.c8.2.2.2.1, d.c16.c16.c16.c16.2.1,
  d.c16.c16.c16.c16.2.2.1, d.c16.c16.c16.c16.2.2.2.1,
  d.c16.c16.c16.c16.c4.1, d.c16.c16.c16.c16.c4.2.1,
  d.c16.c16.c16.c16.c4.2.2.1, d.c16.c16.c16.c16.c4.2.2.2.1,
  d.c16.c16.c16.c16.c8.1, d.c16.c16.c16.c16.c8.2.1,
  d.c16.c16.c16.c16.c8.2.2.1,
  d.c16.c16.c16.c16.c8.2.2.2.1,
  d.c16.c16.c16.c16.c8.c4.1,
  d.c16.c16.c16.c16.c8.c4.2.1,
  d.c16.c16.c16.c16.c8.c4.2.2.1,
  d.c16.c16.c16.c16.c8.c4.2.2.2.1,
  d.c16.c16.c16.c16.c16.1,
  d.c16.c16.c16.c16.c16.2.1,
  d.c16.c16.c16.c16.c16.2.2.1,
  d.c16.c16.c16.c16.c16.2.2.2.1,
  d.c16.c16.c16.c16.c16.c4))) else
  Option.bind (match d_2 with | Sum.inr b => some b | Sum.inl val => none) fun (d_3 : RGPt34) => bif !d.1 == true then x (Sum.inl ()) else
  l_2 (x0, x1, x2, x3, x4, x5, x6, x7, x8, x9, x10, x11, x0, x1, x2, x3, x4, x5, x6, x7, x8, x9, x10, x1 (Int.toNat x11) == 0, d.2.1, d.2.2.1, d.2.2.2.1, d.c4.1, d.c4.2.1, d.c4.2.2.1, d.c4.2.2.2.1, true, d.c8.1,
  d_3.1, 0, d_3.2.1, true, d_3.2.2.1, d_3.2.2.2.1, d_3.c4.1, d_3.c4.2.1, d_3.c4.2.2.1, d_3.c4.2.2.2.1, d.c4.2.2.2.1, d.c8.2.1, d.c8.2.2.1,
  d.c8.2.2.2.1, d.c8.c4.1, d.c8.c4.2.1, d.c8.c4.2.2.1, d.c8.c4.2.2.2.1, d.c16.1,
  d.c16.2, d_3.2.1, d_3.c8.1, d_3.c8.2.1, d_3.c8.2.2.1, d_3.c8.2.2.2.1, d_3.c8.c4.1,
  d_3.c8.c4.2.1, d_3.c8.c4.2.2.1, d_3.c8.c4.2.2.2.1, d_3.c16) (Sum.elim (fun (d : Unit) => x (Sum.inl ())) (Sum.elim (fun (d : RGPt26) => c (d.1, d.2.1, d.2.2.1,
  d.2.2.2.1, d.c4.1, d.c4.2.1, d.c4.2.2.1, d.c4.2.2.2.1, d.c8.1, d.c8.2.1, d.c8.2.2.1, IntKind.wrap IntKind.i64 (d.c8.2.2.2.1 + 1),
  d.c16.c16.2.2.1, d.c16.c16.2.2.2.1, d.c16.c16.c4.1,
  d.c16.c16.c4.2.1, d.c16.c16.c4.2.2.1,
  d.c16.c16.c16.c16.c4.2.2.1, d.c16.c16.c16.c16.c4.2.2.2.1,
  d.c16.c16.c16.c16.c8.1, d.c16.c16.c16.c16.c8.2.1,
  d.c16.c16.c16.c16.c8.2.2.1,
  d.c16.c16.c8.c4.2.2.1, d.c16.c16.c8.c4.2.2.2.1,
  d.c16.c16.c16.1, d.c16.c16.c16.c4.1,
  d.c16.c16.c4.2.2.2.1, d.c16.c16.c8.1,
  d.c16.c16.c8.2.1, d.c16.c16.c8.2.2.1,
  d.c16.c16.c8.2.2.2.1, d.c16.c16.c16.c16.c8.2.2.2.1,
  d.c16.c16.c16.c16.c8.c4.1,
  d.c16.c16.c16.c16.c8.c4.2.1,
  d.c16.c16.c16.c16.c8.c4.2.2.1,
  d.c16.c16.c16.c16.c8.c4.2.2.2.1,
  d.c16.c16.c16.c16.c16.1,
  d.c16.c16.c16.c16.c16.2.1,
  d.c16.c16.c16.c16.c16.2.2.1,
  d.c16.c16.c16.c16.c16.2.2.2.1,
  d.c16.c16.c16.c16.c16.c4.1,
  d.c16.c16.c16.c16.c16.c4.2.1,
  d.c16.c16.c16.c16.c16.c4.2.2.1,
  d.c16.c16.c16.c16.c16.c4.2.2.2.1,
  d.c16.c16.c16.c16.c16.c8.1,
  d.c16.c16.c16.c16.c16.c8.2.1,
  d.c16.c16.c16.c16.c16.c8.2.2.1,
  d.c16.c16.c16.c16.c16.c8.2.2.2.1,
  d.c16.c16.c16.c16.c16.c8.c4.1,
  d.c16.c16.c16.c16.c16.c8.c4.2.1,
  d.c16.c16.c16.c16.c16.c8.c4.2.2)) fun (d : Nat ×
  NI × NI × NI × NI × NI × NI × NI × NI × NI × NI × Int × Bool × Nat × NI × NI × NI × NI × NI × NI × NI × NI × NI × NI × Bool ×
  Int × Int × Int × Int × Int × Int × Int × Int × Int × Int × Int × Int × Int × Int × Int × Int × Int × Int × Int × Bool × Int × Nat × Nat × Bool × Int × Bool × Int × Int × Bool × Bool × Bool × Int × Int × Int × Bool × Int × Nat × Bool × Int × Int × Nat × NI × NI × NI × (Nat →
  Int) × RGPt33) => c (d.1, d.2.1, d.2.2.1, d.2.2.2.1, d.c4.1, d.c4.2.1,
  d.c4.2.2.1, d.c4.2.2.2.1, d.c8.1, d.c8.2.1, d.c8.2.2.1, IntKind.wrap IntKind.i64 (d.c8.2.2.2.1 + 1), d.c16.c16.2.2.1,
  d.c16.c16.2.2.2.1, d.c16.c16.c4.1, d.c16.c16.c4.2.1,
  d.c16.c16.c4.2.2.1, d.c16.c16.c16.c8.c4.1,
  d.c16.c16.c16.c8.c4.2.1, d.c16.c16.c16.c8.c4.2.2.1,
  d.c16.c16.c16.c8.c4.2.2.2.1, d.c16.c16.c16.c16.1,
  d.c16.c16.c8.c4.2.2.1, d.c16.c16.c8.c4.2.2.2.1,
  d.c16.c16.c16.1, d.c16.c16.c16.c4.1,
  d.c16.c16.c4.2.2.2.1, d.c16.c16.c8.1,
  d.c16.c16.c8.2.1, d.c16.c16.c8.2.2.1,
  d.c16.c16.c8.2.2.2.1, d.c16.c16.c16.c16.2.1,
  d.c16.c16.c16.c16.2.2.1, d.c16.c16.c16.c16.2.2.2.1,
  d.c16.c16.c16.c16.c4.1, d.c16.c16.c16.c16.c4.2.1,
  d.c16.c16.c16.c16.c4.2.2.1, d.c16.c16.c16.c16.c4.2.2.2.1,
  d.c16.c16.c16.c16.c8.1, d.c16.c16.c16.c16.c8.2.1,
  d.c16.c16.c16.c16.c8.2.2.1,
  d.c16.c16.c16.c16.c8.2.2.2.1,
  d.c16.c16.c16.c16.c8.c4.1,
  d.c16.c16.c16.c16.c8.c4.2.1,
  d.c16.c16.c16.c16.c8.c4.2.2.1,
  d.c16.c16.c16.c16.c8.c4.2.2.2.1,
  d.c16.c16.c16.c16.c16.1,
  d.c16.c16.c16.c16.c16.2.1,
  d.c16.c16.c16.c16.c16.2.2.1,
  d.c16.c16.c16.c16.c16.2.2.2.1,
  d.c16.c16.c16.c16.c16.c4))) else
  none else none else none else none else bif x1 (Int.toNat x11) == 1 then bif inR x11 x0 then bif Nat.beq x18 x18 then Option.bind (g___ring_Buffer__Pop (x2 (Int.toNat x11)) x12 x13 x14 x15 x16 x17 x18 x20 (fun (j : Nat) => x32 (0 + j)) (fun (j : Nat) => x33 (0 + j)) (fun (j : Nat) => x34 (0 + j)) (fun (j : Nat) => x35 (0 + j)) (fun (j : Nat) => x36 (0 + j)) (fun (j : Nat) => x37 (0 + j)) (fun (j : Nat) => x38 (0 + j)) (fun (j : Nat) => x39 (0 + j)) (fun (j : Nat) => x40 (0 + j)) (x19 && true)) fun (d : RGPt35) => bif inR x11 x0 then
  bif Nat.beq x23 x23 then Option.bind (g_astrolaberef13_Pop (x2 (Int.toNat x11)) x21 x23 x25 x26 x27 x28 x29 x30 (fun (j : Nat) => x42 (x22 + j)) (fun (j : Nat) => x43 (x22 + j)) (fun (j : Nat) => x44 (x22 + j)) (fun (j : Nat) => x45 (x22 + j)) (fun (j : Nat) => x46 (x22 + j)) (fun (j : Nat) => x47 (x22 + j)) (fun (j : Nat) => x48 (x22 + j)) (fun (j : Nat) => x49 (x22 + j)) (fun (j : Nat) => x50 (x22 + j)) (x24 && true)) fun (d_1 : RGPt4) => bif Int.ofNat d.1 != Int.ofNat d_1.1 then x (Sum.inl ()) else l_1 (x0, x1, x2, x3, x4, x5, x6, x7, x8,
  x9, x10, x11, d.1, d_1.1, 0, x0, x1, x2, x3, x4, x5, x6, x7, x8, x9, x10, x1 (Int.toNat x11) == 0, d.2.1, d.2.2.1, d.2.2.2.1, d.c4.1, d.c4.2.1, d.c4.2.2.1, d.c4.2.2.2.1, d.c8.1,
  d_1.2.1, x22 + d_1.2.2.1, d_1.2.2.2.1, d_1.c4.1 && (x24 && true), d_1.c4.2.1, d_1.c4.2.2.1, d_1.c4.2.2.2.1, d_1.c8.1, d_1.c8.2.1, d_1.c8.2.2.1,
  d.1, d.c8.2.1, d.c8.2.2.1, d.c8.2.2.2.1, d.c8.c4.1, d.c8.c4.2.1, d.c8.c4.2.2.1,
  d.c8.c4.2.2.2.1, d.c16.1, d.c16.2.1, d_1.c8.2.2.2.1, d_1.c8.c4.1,
  d_1.c8.c4.2.1, d_1.c8.c4.2.2.1, d_1.c8.c4.2.2.2.1, d_1.c16.1, d_1.c16.2.1,
  d_1.c16.2.2.1, d_1.c16.2.2.2.1, d_1.c16.c4, d.c4.2.2.2.1, d.c16.2.2.1,
  d.c16.2.2.2.1, d.c16.c4.1, d.c16.c4.2.1, d.c16.c4.2.2.1,
  d.c16.c4.2.2.2.1, d.c16.c8.1, d.c16.c8.2.1,
  d.c16.c8.2.2, x41, x42, x43, x44, x45, x46, x47, x48, x49, x50) (Sum.elim (fun (d : Unit) => x (Sum.inl ())) fun (d : Nat × NI × NI × NI × NI × NI × NI × (Nat →
  Int) × RGPt36) => l_2 (d.1, d.2.1, d.2.2.1, d.2.2.2.1,
  d.c4.1, d.c4.2.1, d.c4.2.2.1, d.c4.2.2.2.1, d.c8.1, d.c8.2.1, d.c8.2.2.1, d.c8.2.2.2.1, d.c8.c4.2.2.2.1,
  d.c16.1, d.c16.2.1, d.c16.2.2.1, d.c16.2.2.2.1, d.c16.c4.1,
  d.c16.c4.2.1, d.c16.c4.2.2.1, d.c16.c4.2.2.2.1, d.c16.c8.1,
  d.c16.c8.2.1, d.c16.c8.2.2.1, d.c16.c8.c4.2.1,
  d.c16.c8.c4.2.2.1, d.c16.c8.c4.2.2.2.1, d.c16.c16.1,
  d.c16.c16.2.1, d.c16.c16.2.2.1, d.c16.c16.2.2.2.1,
  true, d.c16.c16.c4.1, d.c16.c16.c4.2.1,
  d.c16.c16.c4.2.2.1, d.c16.c16.c4.2.2.2.1,
  d.c16.c16.c8.1, d.c16.c16.c8.2.1,
  d.c16.c16.c8.2.2.1, d.c16.c16.c8.2.2.2.1,
  d.c16.c16.c8.c4.1, d.c16.c16.c8.c4.2.1,
  d.c16.c16.c8.c4.2.2.1, d.c16.c16.c16.c16.2.2.2.1,
  d.c16.c16.c16.c16.c4.1, d.c16.c16.c16.c16.c4.2.1,
  d.c16.c16.c16.c16.c4.2.2.1, d.c16.c16.c16.c16.c4.2.2.2.1,
  d.c16.c16.c16.c16.c8.1, d.c16.c16.c16.c16.c8.2.1,
  d.c16.c16.c16.c16.c8.2.2.1,
  d.c16.c16.c16.c16.c8.2.2.2.1,
  d.c16.c16.c16.c16.c8.c4.1,
  d.c16.c16.c16.c16.c8.c4.2.1,
  d.c16.c16.c16.c16.c8.c4.2.2.1,
  d.c16.c16.c16.c16.c8.c4.2.2.2.1,
  d.c16.c16.c16.c16.c16.1,
  d.c16.c16.c16.c16.c16.2.1,
  d.c16.c16.c16.c16.c16.2.2.1,
  d.c16.c16.c16.c16.c16.2.2.2.1,
  d.c16.c16.c16.c16.c16.c4.1,
  d.c16.c16.c16.c16.c16.c4.2.1,
  d.c16.c16.c16.c16.c16.c4.2.2) (Sum.elim (fun (d : Unit) => x (Sum.inl ())) (Sum.elim (fun (d : RGPt26) => c (d.1, d.2.1, d.2.2.1,
  d.2.2.2.1, d.c4.1, d.c4.2.1, d.c4.2.2.1, d.c4.2.2.2.1, d.c8.1, d.c8.2.1, d.c8.2.2.1, IntKind.wrap IntKind.i64 (d.c8.2.2.2.1 + 1),
  d.c16.c16.2.2.1, d.c16.c16.2.2.2.1, d.c16.c16.c4.1,
  d.c16.c16.c4.2.1, d.c16.c16.c4.2.2.1,
  d.c16.c16.c16.c16.c4.2.2.1, d.c16.c16.c16.c16.c4.2.2.2.1,
  d.c16.c16.c16.c16.c8.1, d.c16.c16.c16.c16.c8.2.1,
  d.c16.c16.c16.c16.c8.2.2.1,
  d.c16.c16.c8.c4.2.2.1, d.c16.c16.c8.c4.2.2.2.1,
  d.c16.c16.c16.1, d.c16.c16.c16.c4.1,
  d.c16.c16.c4.2.2.2.1, d.c16.c16.c8.1,
  d.c16.c16.c8.2.1, d.c16.c16.c8.2.2.1,
  d.c16.c16.c8.2.2.2.1, d.c16.c16.c16.c16.c8.2.2.2.1,
  d.c16.c16.c16.c16.c8.c4.1,
  d.c16.c16.c16.c16.c8.c4.2.1,
  d.c16.c16.c16.c16.c8.c4.2.2.1,
  d.c16.c16.c16.c16.c8.c4.2.2.2.1,
  d.c16.c16.c16.c16.c16.1,
  d.c16.c16.c16.c16.c16.2.1,
  d.c16.c16.c16.c16.c16.2.2.1,
  d.c16.c16.c16.c16.c16.2.2.2.1,
  d.c16.c16.c16.c16.c16.c4.1,
  d.c16.c16.c16.c16.c16.c4.2.1,
  d.c16.c16.c16.c16.c16.c4.2.2.1,
  d.c16.c16.c16.c16.c16.c4.2.2.2.1,
  d.c16.c16.c16.c16.c16.c8.1,
  d.c16.c16.c16.c16.c16.c8.2.1,
  d.c16.c16.c16.c16.c16.c8.2.2.1,
  d.c16.c16.c16.c16.c16.c8.2.2.2.1,
  d.c16.c16.c16.c16.c16.c8.c4.1,
  d.c16.c16.c16.c16.c16.c8.c4.2.1,
  d.c16.c16.c16.c16.c16.c8.c4.2.2)) fun (d : Nat ×
  NI × NI × NI × NI × NI × NI × NI × NI × NI × NI × Int × Bool × Nat × NI × NI × NI × NI × NI × NI × NI × NI × NI × NI × Bool ×
  Int × Int × Int × Int × Int × Int × Int × Int × Int × Int × Int × Int × Int × Int × Int × Int × Int × Int × Int × Bool × Int × Nat × Nat × Bool × Int × Bool × Int × Int × Bool × Bool × Bool × Int × Int × Int × Bool × Int × Nat × Bool × Int × Int × Nat × NI × NI × NI × (Nat →
  Int) × RGPt33) => c (d.1, d.2.1, d.2.2.1, d.2.2.2.1, d.c4.1, d.c4.2.1,
  d.c4.2.2.1, d.c4.2.2.2.1, d.c8.1, d.c8.2.1, d.c8.2.2.1, IntKind.wrap IntKind.i64 (d.c8.2.2.2.1 + 1), d.c16.c16.2.2.1,
  d.c16.c16.2.2.2.1, d.c16.c16.c4.1, d.c16.c16.c4.2.1,
  d.c16.c16.c4.2.2.1, d.c16.c16.c16.c8.c4.1,
  d.c16.c16.c16.c8.c4.2.1, d.c16.c16.c16.c8.c4.2.2.1,
  d.c16.c16.c16.c8.c4.2.2.2.1, d.c16.c16.c16.c16.1,
  d.c16.c16.c8.c4.2.2.1, d.c16.c16.c8.c4.2.2.2.1,
  d.c16.c16.c16.1, d.c16.c16.c16.c4.1,
  d.c16.c16.c4.2.2.2.1, d.c16.c16.c8.1,
  d.c16.c16.c8.2.1, d.c16.c16.c8.2.2.1,
  d.c16.c16.c8.2.2.2.1, d.c16.c16.c16.c16.2.1,
  d.c16.c16.c16.c16.2.2.1, d.c16.c16.c16.c16.2.2.2.1,
  d.c16.c16.c16.c16.c4.1, d.c16.c16.c16.c16.c4.2.1,
  d.c16.c16.c16.c16.c4.2.2.1, d.c16.c16.c16.c16.c4.2.2.2.1,
  d.c16.c16.c16.c16.c8.1, d.c16.c16.c16.c16.c8.2.1,
  d.c16.c16.c16.c16.c8.2.2.1,
  d.c16.c16.c16.c16.c8.2.2.2.1,
  d.c16.c16.c16.c16.c8.c4.1,
  d.c16.c16.c16.c16.c8.c4.2.1,
  d.c16.c16.c16.c16.c8.c4.2.2.1,
  d.c16.c16.c16.c16.c8.c4.2.2.2.1,
  d.c16.c16.c16.c16.c16.1,
  d.c16.c16.c16.c16.c16.2.1,
  d.c16.c16.c16.c16.c16.2.2.1,
  d.c16.c16.c16.c16.c16.2.2.2.1,
  d.c16.c16.c16.c16.c16.c4)))) else
  none else none else none else none else bif Nat.beq x18 x18 then Option.bind (g___ring_Buffer__Spoilt x12 x13 x14 x15 x16 x17 x18 x20 (fun (j : Nat) => x32 (0 + j)) (fun (j : Nat) => x33 (0 + j)) (fun (j : Nat) => x34 (0 + j)) (fun (j : Nat) => x35 (0 + j)) (fun (j : Nat) => x36 (0 + j)) (fun (j : Nat) => x37 (0 + j)) (fun (j : Nat) => x38 (0 + j)) (fun (j : Nat) => x39 (0 + j)) (fun (j : Nat) => x40 (0 + j)) (x19 && true)) fun (d : RGPt0) => bif Nat.beq x23 x23 then Option.bind (g_astrolaberef13_Spoilt x21 x23 x25 x26 x27 x28 x29 x30 (fun (j : Nat) => x42 (x22 + j)) (fun (j : Nat) => x43 (x22 + j)) (fun (j : Nat) => x44 (x22 + j)) (fun (j : Nat) => x45 (x22 + j)) (fun (j : Nat) => x46 (x22 + j)) (fun (j : Nat) => x47 (x22 + j)) (fun (j : Nat) => x48 (x22 + j)) (fun (j : Nat) => x49 (x22 + j)) (fun (j : Nat) => x50 (x22 + j)) (x24 && true)) fun (d_1 : RGPt2) => l_2 (x0, x1, x2, x3, x4, x5, x6, x7, x8, x9, x10, x11, x0, x1, x2, x3, x4, x5, x6, x7, x8, x9, x10, x1 (Int.toNat x11) == 0, d.1, d.2.1, d.2.2.1, d.2.2.2.1, d.c4.1, d.c4.2.1, d.c4.2.2.1,
  d.c4.2.2.2.1 && (x19 && true), d.c8, d_1.1, x22, d_1.2.1, d_1.2.2.1 && (x24 && true), d_1.2.2.2.1, d_1.c4.1, d_1.c4.2.1, d_1.c4.2.2.1, d_1.c4.2.2.2.1, d_1.c8,
  x31, x32, x33, x34, x35, x36, x37, x38, x39, x40, x41, x42, x43, x44, x45, x46, x47, x48, x49, x50) (Sum.elim (fun (d : Unit) => x (Sum.inl ())) (Sum.elim (fun (d : Nat × NI × NI × NI × NI × NI × NI × NI × NI × NI × (Nat →
  Int) × Int × Bool × Nat × NI × NI × NI × NI × NI × NI × NI × NI × NI × NI × Bool × Int × Int × Int × Int × Int × Int × Int × Int × Int × Int × Int × Int × Int × Int × Int × Int × Int × Int × Int × Bool × Int × Nat ×
  Nat × Bool × Int × Bool × Int × Int × Bool × Bool × Bool × Int × Int × Int × Int × Int × Int × Int × Int × Int × Bool × Int × Int × Int × Bool × Int × Nat × Bool × Int × Int × Nat × NI × NI × NI × NI × NI × NI × NI × NI × (Nat →
  Int) × RGPt7) => c (d.1, d.2.1, d.2.2.1, d.2.2.2.1, d.c4.1, d.c4.2.1, d.c4.2.2.1, d.c4.2.2.2.1, d.c8.1,
  d.c8.2.1, d.c8.2.2.1, IntKind.wrap IntKind.i64 (d.c8.2.2.2.1 + 1), d.c16.c16.2.2.1,
  d.c16.c16.2.2.2.1, d.c16.c16.c4.1, d.c16.c16.c4.2.1,
  d.c16.c16.c4.2.2.1, d.c16.c16.c16.c16.c4.2.2.1,
  d.c16.c16.c16.c16.c4.2.2.2.1, d.c16.c16.c16.c16.c8.1,
  d.c16.c16.c16.c16.c8.2.1, d.c16.c16.c16.c16.c8.2.2.1,
  d.c16.c16.c8.c4.2.2.1, d.c16.c16.c8.c4.2.2.2.1,
  d.c16.c16.c16.1, d.c16.c16.c16.c4.1,
  d.c16.c16.c4.2.2.2.1, d.c16.c16.c8.1,
  d.c16.c16.c8.2.1, d.c16.c16.c8.2.2.1,
  d.c16.c16.c8.2.2.2.1, d.c16.c16.c16.c16.c8.2.2.2.1,
  d.c16.c16.c16.c16.c8.c4.1,
  d.c16.c16.c16.c16.c8.c4.2.1,
  d.c16.c16.c16.c16.c8.c4.2.2.1,
  d.c16.c16.c16.c16.c8.c4.2.2.2.1,
  d.c16.c16.c16.c16.c16.1,
  d.c16.c16.c16.c16.c16.2.1,
  d.c16.c16.c16.c16.c16.2.2.1,
  d.c16.c16.c16.c16.c16.2.2.2.1,
  d.c16.c16.c16.c16.c16.c4.1,
  d.c16.c16.c16.c16.c16.c4.2.1,
  d.c16.c16.c16.c16.c16.c4.2.2.1,
  d.c16.c16.c16.c16.c16.c4.2.2.2.1,
  d.c16.c16.c16.c16.c16.c8.1,
  d.c16.c16.c16.c16.c16.c8.2.1,
  d.c16.c16.c16.c16.c16.c8.2.2.1,
  d.c16.c16.c16.c16.c16.c8.2.2.2.1,
  d.c16.c16.c16.c16.c16.c8.c4.1,
  d.c16.c16.c16.c16.c16.c8.c4.2.1,
  d.c16.c16.c16.c16.c16.c8.c4.2.2)) fun (d : Nat ×
  NI × NI × NI × NI × NI × NI × NI × NI × NI × NI × Int × Bool × Nat × NI × NI × NI × NI × NI × NI × NI × NI × NI × NI × Bool ×
  Int × Int × Int × Int × Int × Int × Int × Int × Int × Int × Int × Int × Int × Int × Int × Int × Int × Int × Int × Bool × Int × Nat × Nat × Bool × Int × Bool × Int × Int × Bool × Bool × Bool × Int × Int × Int × Bool × Int × Nat × Bool × Int × Int × Nat × NI × NI × NI × (Nat →
  Int) × RGPt33) => c (d.1, d.2.1, d.2.2.1, d.2.2.2.1, d.c4.1, d.c4.2.1,
  d.c4.2.2.1, d.c4.2.2.2.1, d.c8.1, d.c8.2.1, d.c8.2.2.1, IntKind.wrap IntKind.i64 (d.c8.2.2.2.1 + 1), d.c16.c16.2.2.1,
  d.c16.c16.2.2.2.1, d.c16.c16.c4.1, d.c16.c16.c4.2.1,
  d.c16.c16.c4.2.2.1, d.c16.c16.c16.c8.c4.1,
  d.c16.c16.c16.c8.c4.2.1, d.c16.c16.c16.c8.c4.2.2.1,
  d.c16.c16.c16.c8.c4.2.2.2.1, d.c16.c16.c16.c16.1,
  d.c16.c16.c8.c4.2.2.1, d.c16.c16.c8.c4.2.2.2.1,
  d.c16.c16.c16.1, d.c16.c16.c16.c4.1,
  d.c16.c16.c4.2.2.2.1, d.c16.c16.c8.1,
  d.c16.c16.c8.2.1, d.c16.c16.c8.2.2.1,
  d.c16.c16.c8.2.2.2.1, d.c16.c16.c16.c16.2.1,
  d.c16.c16.c16.c16.2.2.1, d.c16.c16.c16.c16.2.2.2.1,
  d.c16.c16.c16.c16.c4.1, d.c16.c16.c16.c16.c4.2.1,
  d.c16.c16.c16.c16.c4.2.2.1, d.c16.c16.c16.c16.c4.2.2.2.1,
  d.c16.c16.c16.c16.c8.1, d.c16.c16.c16.c16.c8.2.1,
  d.c16.c16.c16.c16.c8.2.2.1,
  d.c16.c16.c16.c16.c8.2.2.2.1,
  d.c16.c16.c16.c16.c8.c4.1,
  d.c16.c16.c16.c16.c8.c4.2.1,
  d.c16.c16.c16.c16.c8.c4.2.2.1,
  d.c16.c16.c16.c16.c8.c4.2.2.2.1,
  d.c16.c16.c16.c16.c16.1,
  d.c16.c16.c16.c16.c16.2.1,
  d.c16.c16.c16.c16.c16.2.2.1,
  d.c16.c16.c16.c16.c16.2.2.2.1,
  d.c16.c16.c16.c16.c16.c4))) else
  none else none else none else x (Sum.inr (x0, x1, x2, x3, x4, x5, x6, x7, x8, x9, x10, x11, Int.ofNat x0, decide (x11 < Int.ofNat x0), x12, x13, x14, x15, x16, x17, x18, x19, x20, x21, x22, x23, x24, x25, x26, x27, x28, x29, x30, x31, x32, x33, x34, x35, x36, x37, x38, x39, x40, x41, x42, x43, x44, x45,
  x46, x47, x48, x49, x50))
section
open Go.Ab.Rdr
def Q_astrolabelaw13_RingPlays_0 := (st (cons aund (cons (ar (rc (cfs hole (nat 10) (cons (ki .i64 hole) (cons (ki .i64 hole) (cons (ki .i64 hole) (cons (ki .i64 hole) (cons (ki .i64 hole) (cons (ki .i64 hole) (cons (ki .i64 hole) (cons (ki .i64 hole) (cons (ki .i64 hole) (cons (ki .i64 hole) nil))))))))))))) (cons aund (cons aund (cons aund (cons (ar (rc (cptr (nat 0) (ok' (nat 0)) (nat 8)))) (cons aund (cons (ar (rc (cptr (nat 1) (ok' (nat 0)) (nat 8)))) (cons (ar (rc (cf (fi .i64 hole)))) (cons aund (cons aund (cons aund (cons aund (cons aund (cons aund (cons aund (cons aund (cons aund (cons aund (cons aund (cons aund (cons aund (cons aund (cons aund (cons aund (cons aund (cons aund (cons aund (cons aund (cons aund (cons aund (cons (atup nil) (cons aund (cons aund (cons aund (cons aund (cons aund (cons aund (cons aund (cons aund (cons aund (cons (atup nil) (cons aund (cons aund (cons aund (cons aund (cons aund (cons aund (cons aund (cons aund (cons aund (cons aund (cons aund (cons aund (cons aund (cons aund (cons aund (cons aund (cons aund (cons aund (cons aund (cons aund (cons aund (cons aund (cons aund (cons aund (cons aund (cons aund (cons aund (cons aund (cons aund (cons aund (cons aund (cons aund (cons aund (cons aund (cons aund (cons aund (cons aund (cons aund (cons aund (cons aund (cons aund (cons aund (cons aund (cons aund (cons aund (cons aund (cons aund (cons aund (cons aund (cons aund (cons aund (cons aund (cons aund (cons aund (cons aund (cons aund (cons aund (cons aund (cons aund (cons aund (cons aund (cons aund (cons aund (cons aund (cons aund (cons aund (cons aund (cons aund (cons aund (cons aund (cons aund (cons aund (cons aund (cons aund (cons aund (cons aund (cons aund (cons aund (cons aund (cons aund (cons aund (cons aund (cons aund (cons aund (cons aund (cons aund (cons aund (cons aund (cons aund (cons aund (cons aund (cons aund (cons aund (cons aund (cons aund (cons aund (cons aund (cons aund (cons aund (cons aund (cons aund (cons aund (cons aund (cons aund (cons aund (cons aund (cons aund (cons aund (cons aund (cons aund (cons aund (cons aund (cons aund (cons aund (cons aund (cons aund (cons aund (cons aund (cons aund (cons aund (cons aund (cons aund (cons aund (cons aund (cons aund (cons aund (cons aund (cons aund (cons aund (cons aund (cons aund (cons aund (cons aund (cons aund (cons aund (cons aund (cons aund (cons aund (cons aund (cons aund (cons aund (cons aund (cons aund (cons aund (cons aund (cons aund (cons aund (cons aund (cons aund (cons aund (cons aund (cons aund (cons aund (cons aund (cons aund (cons aund (cons aund (cons aund (cons aund (cons aund (cons aund (cons aund (cons aund (cons aund (cons aund (cons aund (cons aund (cons aund (cons aund (cons aund nil)))))))))))))))))))))))))))))))))))))))))))))))))))))))))))))))))))))))))))))))))))))))))))))))))))))))))))))))))))))))))))))))))))))))))))))))))))))))))))))))))))))))))))))))))))))))))))))))))))))))))))))))))))) (cons (some' (cons (gc (cf (fi .i64 hole))) (cons (gc (cf (fi .i64 hole))) (cons (gc (cf (fi .i64 hole))) (cons (gc (cf (fi .i64 hole))) (cons (gc (cf (fi .i64 hole))) (cons (gc (cf (fi .i64 hole))) (cons (gc (csl (nat 2) (ox (nat 0) (nat 0) (nat 9)) (szs hole) (nat 9) hole)) (cons (gc (cf (fi .i64 hole))) nil))))))))) (cons (some' (cons (gc (cf (fi .i64 hole))) (cons (gc (csl (nat 3) (ox (nat 0) hole (nat 9)) (szs hole) (nat 9) hole)) (cons (gc (cf (fi .i64 hole))) (cons (gc (cf (fi .i64 hole))) (cons (gc (cf (fi .i64 hole))) (cons (gc (cf (fi .i64 hole))) (cons (gc (cf (fi .i64 hole))) (cons (gc (cf (fi .i64 hole))) nil))))))))) (cons (some' (cons (ga (szs hole) (cons (ki .i64 hole) (cons (ki .i64 hole) (cons (ki .i64 hole) (cons (ki .i64 hole) (cons (ki .i64 hole) (cons (ki .i64 hole) (cons (ki .i64 hole) (cons (ki .i64 hole) (cons (ki .i64 hole) nil)))))))))) nil)) (cons (some' (cons (ga (szs hole) (cons (ki .i64 hole) (cons (ki .i64 hole) (cons (ki .i64 hole) (cons (ki .i64 hole) (cons (ki .i64 hole) (cons (ki .i64 hole) (cons (ki .i64 hole) (cons (ki .i64 hole) (cons (ki .i64 hole) nil)))))))))) nil)) nil)))) nil)
end
theorem q_astrolabelaw13_RingPlays_0 : ∀ b, (Q_astrolabelaw13_RingPlays_0).em b = St.mk [und, AV.r (RV.c (CV.fs b.1.2.1.1 10 [kI b.1.2.1.2.2.1, kI b.1.2.1.2.2.2.1, kI b.1.2.1.c4.1, kI b.1.2.1.c4.2.1, kI b.1.2.1.c4.2.2.1,
  kI b.1.2.1.c4.2.2.2.1, kI b.1.2.1.c8.1, kI b.1.2.1.c8.2.1, kI b.1.2.1.c8.2.2.1, kI b.1.2.1.c8.2.2.2.1])), und, und, und, AV.r (RV.c (CV.ptr 0 (Off.k 0) 8)), und,
  AV.r (RV.c (CV.ptr 1 (Off.k 0) 8)), AV.r (RV.c (fI b.1.c8.1)), und, und, und, und, und, und, und, und, und, und, und, und, und, und, und, und, und, und, und, und, und, und, AV.tup [], und, und, und,
  und, und, und, und, und, und, AV.tup [], und, und, und, und, und, und, und, und, und, und, und, und, und, und, und, und, und, und, und, und, und, und, und, und, und, und, und, und, und, und, und,
  und, und, und, und, und, und, und, und, und, und, und, und, und, und, und, und, und, und, und, und, und, und, und, und, und, und, und, und, und, und, und, und, und, und, und, und, und, und,
  und, und, und, und, und, und, und, und, und, und, und, und, und, und, und, und, und, und, und, und, und, und, und, und, und, und, und, und, und, und, und, und, und, und, und, und, und, und,
  und, und, und, und, und, und, und, und, und, und, und, und, und, und, und, und, und, und, und, und, und, und, und, und, und, und, und, und, und, und, und, und, und, und, und, und, und, und,
  und, und, und, und, und, und, und, und, und, und, und, und, und, und, und, und, und, und, und, und, und, und, und, und, und] [some [Sg.c (fI b.2.1.1.1), Sg.c (fI b.2.1.1.2.1), Sg.c (fI b.2.1.1.2.2.1),
  Sg.c (fI b.2.1.1.2.2.2.1), Sg.c (fI b.2.1.1.c4.1), Sg.c (fI b.2.1.1.c4.2.1), Sg.c (CV.sl 2 (Off.x 0 0 9) (Sz.s b.2.1.1.c4.2.2.1.2.2.1) 9 b.2.1.1.c4.2.2.1.c4), Sg.c (fI b.2.1.1.c4.2.2.2.1)],
  some [Sg.c (fI b.2.1.2.1.1), Sg.c (CV.sl 3 (Off.x 0 b.2.1.2.1.2.1.2.1.2.1 9) (Sz.s b.2.1.2.1.2.1.2.2.1) 9 b.2.1.2.1.2.1.c4), Sg.c (fI b.2.1.2.1.2.2.1), Sg.c (fI b.2.1.2.1.2.2.2.1), Sg.c (fI b.2.1.2.1.c4.1),
  Sg.c (fI b.2.1.2.1.c4.2.1), Sg.c (fI b.2.1.2.1.c4.2.2.1), Sg.c (fI b.2.1.2.1.c4.2.2.2.1)], some [Sg.a (Sz.s b.2.1.2.2.1.1.1) [kI b.2.1.2.2.1.1.2.1, kI b.2.1.2.2.1.1.2.2.1, kI b.2.1.2.2.1.1.2.2.2.1,
  kI b.2.1.2.2.1.1.c4.1, kI b.2.1.2.2.1.1.c4.2.1, kI b.2.1.2.2.1.1.c4.2.2.1, kI b.2.1.2.2.1.1.c4.2.2.2.1, kI b.2.1.2.2.1.1.c8.1, kI b.2.1.2.2.1.1.c8.2.1]], some [Sg.a (Sz.s b.2.1.2.2.2.1.1.1) [kI b.2.1.2.2.2.1.1.2.1,
  kI b.2.1.2.2.2.1.1.2.2.1, kI b.2.1.2.2.2.1.1.2.2.2.1, kI b.2.1.2.2.2.1.1.c4.1, kI b.2.1.2.2.2.1.1.c4.2.1, kI b.2.1.2.2.2.1.1.c4.2.2.1, kI b.2.1.2.2.2.1.1.c4.2.2.2.1, kI b.2.1.2.2.2.1.1.c8.1,
  kI b.2.1.2.2.2.1.1.c8.2.1]]] [] := fun b => by kernel_rfl
def R_astrolabelaw13_RingPlays_0 (l : ∀ {ρ : Type}, (RGPt37) → ((Unit ⊕ Nat × (Nat →
  Int) × RGPt38) → Option ρ) → Option ρ) {ρ : Type} (s : St) (K : AX → St → Option ρ) : Option ρ := ((Q_astrolabelaw13_RingPlays_0).rd s).bind fun b => l (b.1.2.1.1,
  b.1.2.1.2.2.1, b.1.2.1.2.2.2.1, b.1.2.1.c4.1, b.1.2.1.c4.2.1, b.1.2.1.c4.2.2.1, b.1.2.1.c4.2.2.2.1, b.1.2.1.c8.1, b.1.2.1.c8.2.1, b.1.2.1.c8.2.2.1, b.1.2.1.c8.2.2.2.1, b.1.c8.1, b.2.1.1.1, b.2.1.1.2.1, b.2.1.1.2.2.1,
  b.2.1.1.2.2.2.1, b.2.1.1.c4.1, b.2.1.1.c4.2.1, b.2.1.1.c4.2.2.1.2.2.1, b.2.1.1.c4.2.2.1.c4, b.2.1.1.c4.2.2.2.1, b.2.1.2.1.1, b.2.1.2.1.2.1.2.1.2.1, b.2.1.2.1.2.1.2.2.1, b.2.1.2.1.2.1.c4, b.2.1.2.1.2.2.1, b.2.1.2.1.2.2.2.1, b.2.1.2.1.c4.1, b.2.1.2.1.c4.2.1,
  b.2.1.2.1.c4.2.2.1, b.2.1.2.1.c4.2.2.2.1, b.2.1.2.2.1.1.1, b.2.1.2.2.1.1.2.1, b.2.1.2.2.1.1.2.2.1, b.2.1.2.2.1.1.2.2.2.1, b.2.1.2.2.1.1.c4.1, b.2.1.2.2.1.1.c4.2.1, b.2.1.2.2.1.1.c4.2.2.1, b.2.1.2.2.1.1.c4.2.2.2.1, b.2.1.2.2.1.1.c8.1, b.2.1.2.2.1.1.c8.2.1,
  b.2.1.2.2.2.1.1.1, b.2.1.2.2.2.1.1.2.1, b.2.1.2.2.2.1.1.2.2.1, b.2.1.2.2.2.1.1.2.2.2.1, b.2.1.2.2.2.1.1.c4.1, b.2.1.2.2.2.1.1.c4.2.1, b.2.1.2.2.2.1.1.c4.2.2.1, b.2.1.2.2.2.1.1.c4.2.2.2.1, b.2.1.2.2.2.1.1.c8.1, b.2.1.2.2.2.1.1.c8.2.1) (Sum.elim (fun d => K (AX.ret) (St.mk [und,
  und, und, und, AV.r (RV.c (CV.f (FV.b false))), und, und, und, und, und, und, und, und, und, und, und, und, und, und, und, und, und, und, und, und, und, und, und, und, und, und, und, und, und, und, und,
  und, und, und, und, und, und, und, und, und, und, und, und, und, und, und, und, und, und, und, und, und, und, und, und, und, und, und, und, und, und, und, und, und, und, und, und, und, und,
  und, und, und, und, und, und, und, und, und, und, und, und, und, und, und, und, und, und, und, und, und, und, und, und, und, und, und, und, und, und, und, und, und, und, und, und, und, und,
  und, und, und, und, und, und, und, und, und, und, und, und, und, und, und, und, und, und, und, und, und, und, und, und, und, und, und, und, und, und, und, und, und, und, und, und, und, und,
  und, und, und, und, und, und, und, und, und, und, und, und, und, und, und, und, und, und, und, und, und, und, und, und, und, und, und, und, und, und, und, und, und, und, und, und, und, und,
  und, und, und, und, und, und, und, und, und, und, und, und, und, und, und, und, und, und, und, und, und, und, und, und] [] [])) (fun d => K (AX.ex 0) (St.mk [und, AV.r (RV.c (CV.fs d.1 10 [kI d.2.1, kI d.2.2.1,
  kI d.2.2.2.1, kI d.c4.1, kI d.c4.2.1, kI d.c4.2.2.1, kI d.c4.2.2.2.1, kI d.c8.1, kI d.c8.2.1,
  kI d.c8.2.2.1])), und, und, und, AV.r (RV.c (CV.ptr 0 (Off.k 0) 8)), und, AV.r (RV.c (CV.ptr 1 (Off.k 0) 8)), AV.r (RV.c (fI d.c8.2.2.2.1)), und, und, und, und, und,
  und, und, und, und, und, und, und, und, und, und, und, und, und, und, und, und, und, AV.tup [], und, und, und, und, und, und, und, und, und, AV.tup [], und, und, AV.r (RV.c (fI d.c8.2.2.2.1)),
  AV.r (RV.c (CV.fs d.1 10 [kI d.2.1, kI d.2.2.1, kI d.2.2.2.1, kI d.c4.1, kI d.c4.2.1, kI d.c4.2.2.1, kI d.c4.2.2.2.1,
  kI d.c8.1, kI d.c8.2.1, kI d.c8.2.2.1])), AV.r (RV.c (fI d.c8.c4.1)), AV.r (RV.c (CV.f (FV.b d.c8.c4.2.1))),
  und, und, und, und, und, und, und, und, und, und, und, und, und, und, und, und, und, und, und, und, und, und, und, und, und, und, und, und, und, und, und, und, und, und, und, und, und, und,
  und, und, und, und, und, und, und, und, und, und, und, und, und, und, und, und, und, und, und, und, und, und, und, und, und, und, und, und, und, und, und, und, und, und, und, und, und, und,
  und, und, und, und, und, und, und, und, und, und, und, und, und, und, und, und, und, und, und, und, und, und, und, und, und, und, und, und, und, und, und, und, und, und, und, und, und, und,
  und, und, und, und, und, und, und, und, und, und, und, und, und, und, und, und, und, und, und, und, und, und, und, und, und, und, und, und, und, und, und, und, und, und, und, und, und, und,
  und, und, und, und, und, und, und, und, und, und, und, und] [some [Sg.c (fI d.c8.c4.2.2.1), Sg.c (fI d.c8.c4.2.2.2.1), Sg.c (fI d.c16.1),
  Sg.c (fI d.c16.2.1), Sg.c (fI d.c16.2.2.1), Sg.c (fI d.c16.2.2.2.1),
  Sg.c (CV.sl 2 (Off.x 0 0 9) (Sz.s d.c16.c4.1) 9 d.c16.c4.2.1), Sg.c (fI d.c16.c4.2.2.1)],
  some [Sg.c (fI d.c16.c4.2.2.2.1), Sg.c (CV.sl 3 (Off.x 0 d.c16.c8.1 9) (Sz.s d.c16.c8.2.1) 9 d.c16.c8.2.2.1),
  Sg.c (fI d.c16.c8.2.2.2.1), Sg.c (fI d.c16.c8.c4.1), Sg.c (fI d.c16.c8.c4.2.1),
  Sg.c (fI d.c16.c8.c4.2.2.1), Sg.c (fI d.c16.c8.c4.2.2.2.1),
  Sg.c (fI d.c16.c16.1)], some [Sg.a (Sz.s d.c16.c16.2.1) [kI d.c16.c16.2.2.1,
  kI d.c16.c16.2.2.2.1, kI d.c16.c16.c4.1,
  kI d.c16.c16.c4.2.1, kI d.c16.c16.c4.2.2.1,
  kI d.c16.c16.c4.2.2.2.1, kI d.c16.c16.c8.1,
  kI d.c16.c16.c8.2.1, kI d.c16.c16.c8.2.2.1]],
  some [Sg.a (Sz.s d.c16.c16.c8.2.2.2.1) [kI d.c16.c16.c8.c4.1,
  kI d.c16.c16.c8.c4.2.1, kI d.c16.c16.c8.c4.2.2.1,
  kI d.c16.c16.c8.c4.2.2.2.1, kI d.c16.c16.c16.1,
  kI d.c16.c16.c16.2.1, kI d.c16.c16.c16.2.2.1,
  kI d.c16.c16.c16.2.2.2.1, kI d.c16.c16.c16.c4]]] [])))
theorem ms_astrolabelaw13_RingPlays_0 {ρ σ : Type} (g_astrolabelaw13_awake : Option Bool) (g_ring_New : Int → Option (Unit ⊕ Int × NI)) (g___ring_Buffer__Put : RGPg19) (g_astrolaberef13_Put : RGPg9) (g___ring_Buffer__Pop : RGPg10) (g_astrolaberef13_Pop : RGPg11) (g___ring_Buffer__Spoilt : RGPg12) (g_astrolaberef13_Spoilt : RGPg13) (g___ring_Buffer__Peek : RGPg14) (g___ring_Buffer__Len : RGPg15) (g___ring_Buffer__Horizon : RGPg15) (g__ring_Counts__Total : Int → Int → Int → Int → Int → Option Int) (l_1 : ∀ {ρ : Type}, (Nat × NI × NI × (Nat →
  Int) × RGPt28) →
  ((Unit ⊕ Nat × NI × NI × NI × NI × NI × NI × NI × NI × NI × NI × Int × Nat × Nat × Int × Nat × NI × NI × NI × NI × NI × NI × NI × NI × (Nat →
  Int) × RGPt29) → Option ρ) → Option ρ) (l_2 : ∀ {ρ : Type}, (Nat × NI × NI × NI × NI × NI × NI × NI × NI × NI × NI × Int × Nat × NI × NI ×
  NI × NI × NI × NI × NI × NI × NI × NI × Bool × Int × Int × Int × Int × Int × Int × Nat × Bool × Int × Int × Nat × Nat × Bool × Int × Int × Int × Int × Int × Int × Nat × NI × NI × NI × NI × (Nat →
  Int) × RGPt21) → ((Unit ⊕ Nat × NI × NI × NI × NI × NI × NI × (Nat →
  Int) × NI × NI × NI × Int × Bool × Nat × NI × NI × NI × NI × NI × NI × NI × NI × NI × NI × Bool × Int × Int × Int × Int × Int × Int × Int × Int × Int × Int × Int × Int × Int × Int × Int ×
  Int × Int × Int × Int × Bool × Int × Nat × Nat × Bool × Int × Bool × Int × Int × Bool × Bool × Bool × Int × Int × Int × Int × Int × Int × Int × Int × Int × Bool × Int × Int × Int × Bool × Int × Nat × Bool × Int × Int × Nat × NI × NI × NI × NI × NI × (Nat →
  Int) × RGPt30 ⊕ Nat × NI × NI × NI × NI × NI × NI × NI × NI × (Nat →
  Int) × NI × Int × Bool × Nat × NI × NI × NI × NI × NI × NI × NI × NI × NI × NI × Bool × Int × Int × Int × Int × Int × Int × Int × Int × Int × Int × Int × Int × Int × Int × Int × Int × Int × Int × Int ×
  Bool × Int × Nat × Nat × Bool × Int × Bool × Int × Int × Bool × Bool × Bool × Int × Int × Int × Bool × Int × Nat × Bool × Int × Int × Nat × NI × NI × NI × NI × NI × NI × NI × NI × NI × Nat × NI × NI × (Nat →
  Int) × NI × NI × NI × NI × NI × NI) → Option ρ) → Option ρ) (hl_1 : ∀ {ρ σ : Type} (q : ρ → Option σ) (d : RGPt39) (k : (Unit ⊕ Nat × NI × NI × NI × NI × NI × NI ×
  NI × NI × NI × NI × Int × Nat × Nat × Int × Nat × NI × NI × NI × NI × NI × NI × NI × NI × NI × NI × Bool × Int × Bool × Int × Int × Int × Int × Int × Int × Nat × Int × Int × Nat ×
  Nat × Bool × Int × Int × Int × Int × Int × Int × Nat × NI × NI × NI × NI × NI × NI × NI × NI × NI × Nat × NI × NI × NI × NI × NI × NI × NI × NI × (Nat →
  Int) × RGPt40) → Option ρ), (l_1 d k).bind q = l_1 d fun x => (k x).bind q) (hl_2 : ∀ {ρ σ : Type} (q : ρ →
  Option σ) (d : Nat × NI × NI × NI × NI × NI × NI × NI × NI × NI × NI × Int × Nat × NI × NI × NI × NI × NI × NI × NI × NI × NI × (Nat →
  Int) × Bool × Int × Int × Int × Int × Int × Int × Nat × Bool × Int × Int × Nat × Nat × Bool × Int × Int × Int × Int × Int × Int × Nat × NI × NI × NI × NI × NI × NI × NI × NI × NI × Nat × NI × NI × (Nat →
  Int) × NI × NI × NI × NI × NI × NI) (k : (Unit ⊕ Nat × NI × NI × NI × NI × NI × NI × NI × NI × NI × NI × Int × Bool × Nat × NI × NI × (Nat →
  Int) × NI × NI × NI × NI × NI × NI × NI × Bool × Int × Int × Int × Int × Int × Int × Int × Int × Int × Int × Int × Int × Int × Int × Int × Int × Int × Int × Int × Bool × Int × Nat × Nat × Bool × Int × Bool × Int × Int × Bool × Bool × Bool ×
  Int × Int × Int × Int × Int × Int × Int × Int × Int × Bool × Int × Int × Int × Bool × Int × Nat × Bool × Int × Int × Nat × NI × NI × NI × NI × NI × NI × NI × NI × NI × Nat × NI × NI × NI × (Nat →
  Int) × NI × NI × NI × NI × NI ⊕ Nat × NI × NI × NI × NI × NI × NI × NI × NI × NI × NI × Int × Bool × Nat × NI × NI × NI × NI × (Nat →
  Int) × RGPt41) → Option ρ),
  (l_2 d k).bind q = l_2 d fun x => (k x).bind q) (q : ρ → Option σ) (x0 : Nat) (x1 : Nat → Int) (x2 : Nat → Int) (x3 : Nat → Int) (x4 : Nat → Int) (x5 : Nat → Int) (x6 : Nat → Int) (x7 : Nat → Int) (x8 : Nat → Int) (x9 : Nat → Int) (x10 : Nat → Int) (x11 : Int) (x12 : Int) (x13 : Int) (x14 : Int) (x15 : Int) (x16 : Int) (x17 : Int) (x18 : Nat) (x19 : Bool) (x20 : Int) (x21 : Int) (x22 : Nat) (x23 : Nat) (x24 : Bool) (x25 : Int) (x26 : Int) (x27 : Int) (x28 : Int) (x29 : Int) (x30 : Int) (x31 : Nat) (x32 : Nat →
  Int) (x33 : Nat → Int) (x34 : Nat → Int) (x35 : Nat → Int) (x36 : Nat → Int) (x37 : Nat → Int) (x38 : Nat → Int) (x39 : Nat → Int) (x40 : Nat → Int) (x41 : Nat) (x42 : Nat → Int) (x43 : Nat → Int) (x44 : Nat → Int) (x45 : Nat → Int) (x46 : Nat → Int) (x47 : Nat → Int) (x48 : Nat → Int) (x49 : Nat → Int) (x50 : Nat →
  Int) (c : (Nat × NI × NI × NI × NI × NI × NI × NI × NI × NI × NI × Int × Int × Int × Int × Int × Int × Int × Nat × Bool × Int × Int × Nat × Nat × Bool × Int × Int × Int × Int × Int × Int × Nat × NI × (Nat →
  Int) × RGPt31) → Option ρ) (x : (Unit ⊕ Nat × NI × NI × (Nat →
  Int) × RGPt32) → Option ρ) : (S_astrolabelaw13_RingPlays_0 g_astrolabelaw13_awake g_ring_New g___ring_Buffer__Put g_astrolaberef13_Put g___ring_Buffer__Pop g_astrolaberef13_Pop g___ring_Buffer__Spoilt g_astrolaberef13_Spoilt g___ring_Buffer__Peek g___ring_Buffer__Len g___ring_Buffer__Horizon g__ring_Counts__Total (@l_1) (@l_2) x0 x1 x2 x3 x4 x5 x6 x7 x8 x9 x10 x11 x12 x13 x14 x15 x16 x17 x18 x19 x20 x21 x22 x23 x24 x25 x26 x27 x28 x29 x30 x31 x32 x33 x34 x35 x36 x37 x38 x39 x40 x41 x42 x43 x44 x45 x46 x47 x48 x49 x50 c x).bind q = S_astrolabelaw13_RingPlays_0 g_astrolabelaw13_awake g_ring_New g___ring_Buffer__Put g_astrolaberef13_Put g___ring_Buffer__Pop g_astrolaberef13_Pop g___ring_Buffer__Spoilt g_astrolaberef13_Spoilt g___ring_Buffer__Peek g___ring_Buffer__Len g___ring_Buffer__Horizon g__ring_Counts__Total (@l_1) (@l_2) x0 x1 x2 x3 x4 x5 x6 x7 x8 x9 x10 x11 x12 x13 x14 x15 x16 x17 x18 x19 x20 x21 x22 x23 x24 x25 x26 x27 x28 x29 x30 x31 x32 x33 x34 x35 x36 x37 x38 x39 x40 x41 x42 x43 x44 x45 x46 x47 x48 x49 x50 (fun d => (c d).bind q) (fun d => (x d).bind q) := by
  simp only [S_astrolabelaw13_RingPlays_0, bnd_cond, bnd_bind, bnd_none, bnd_sum, hl_1, hl_2]
def L_astrolabelaw13_RingPlays_0 {ρ : Type} (d : RGPt37) (k : (Unit ⊕ Nat × (Nat →
  Int) × RGPt38) → Option ρ) : Option ρ := loopK (fun d c x => S_astrolabelaw13_RingPlays_0 f_astrolabelaw13_awake f_ring_New f___ring_Buffer__Put f_astrolaberef13_Put f___ring_Buffer__Pop f_astrolaberef13_Pop f___ring_Buffer__Spoilt f_astrolaberef13_Spoilt f___ring_Buffer__Peek f___ring_Buffer__Len f___ring_Buffer__Horizon f__ring_Counts__Total (@L_astrolabelaw13_RingPlays_1) (@L_astrolabelaw13_RingPlays_2) d.1 d.2.1 d.2.2.1 d.2.2.2.1 d.c4.1 d.c4.2.1 d.c4.2.2.1 d.c4.2.2.2.1 d.c8.1 d.c8.2.1 d.c8.2.2.1 d.c8.2.2.2.1 d.c8.c4.1 d.c8.c4.2.1 d.c8.c4.2.2.1 d.c8.c4.2.2.2.1 d.c16.1 d.c16.2.1 d.c16.2.2.1 d.c16.2.2.2.1 d.c16.c4.1 d.c16.c4.2.1 d.c16.c4.2.2.1 d.c16.c4.2.2.2.1 d.c16.c8.1 d.c16.c8.2.1 d.c16.c8.2.2.1 d.c16.c8.2.2.2.1 d.c16.c8.c4.1 d.c16.c8.c4.2.1 d.c16.c8.c4.2.2.1 d.c16.c8.c4.2.2.2.1 d.c16.c16.1 d.c16.c16.2.1 d.c16.c16.2.2.1 d.c16.c16.2.2.2.1 d.c16.c16.c4.1 d.c16.c16.c4.2.1 d.c16.c16.c4.2.2.1 d.c16.c16.c4.2.2.2.1 d.c16.c16.c8.1 d.c16.c16.c8.2.1 d.c16.c16.c8.2.2.1 d.c16.c16.c8.2.2.2.1 d.c16.c16.c8.c4.1 d.c16.c16.c8.c4.2.1 d.c16.c16.c8.c4.2.2.1 d.c16.c16.c8.c4.2.2.2.1 d.c16.c16.c16.1 d.c16.c16.c16.2.1 d.c16.c16.c16.2.2 c x) 200 d k
theorem mL_astrolabelaw13_RingPlays_0 {ρ σ : Type} (q : ρ → Option σ) (d : RGPt37) (k : (Unit ⊕ Nat ×
  NI × NI × NI × NI × NI × NI × NI × NI × NI × NI × Int × Int × Bool × Int × Int × Int × Int × Int × Int × Nat × Bool × Int × Int × Nat × Nat × Bool × Int × Int × Int × Int × Int × Int × Nat × NI × (Nat →
  Int) × RGPt31) → Option ρ) : (L_astrolabelaw13_RingPlays_0 d k).bind q = L_astrolabelaw13_RingPlays_0 d fun x => (k x).bind q := loopK_bind q (fun d c x => ms_astrolabelaw13_RingPlays_0 f_astrolabelaw13_awake f_ring_New f___ring_Buffer__Put f_astrolaberef13_Put f___ring_Buffer__Pop f_astrolaberef13_Pop f___ring_Buffer__Spoilt f_astrolaberef13_Spoilt f___ring_Buffer__Peek f___ring_Buffer__Len f___ring_Buffer__Horizon f__ring_Counts__Total (@L_astrolabelaw13_RingPlays_1) (@L_astrolabelaw13_RingPlays_2) (fun q d k => mL_astrolabelaw13_RingPlays_1 q d k) (fun q d k => mL_astrolabelaw13_RingPlays_2 q d k) q d.1 d.2.1 d.2.2.1 d.2.2.2.1 d.c4.1 d.c4.2.1 d.c4.2.2.1 d.c4.2.2.2.1 d.c8.1 d.c8.2.1 d.c8.2.2.1 d.c8.2.2.2.1 d.c8.c4.1 d.c8.c4.2.1 d.c8.c4.2.2.1 d.c8.c4.2.2.2.1 d.c16.1 d.c16.2.1 d.c16.2.2.1 d.c16.2.2.2.1 d.c16.c4.1 d.c16.c4.2.1 d.c16.c4.2.2.1 d.c16.c4.2.2.2.1 d.c16.c8.1 d.c16.c8.2.1 d.c16.c8.2.2.1 d.c16.c8.2.2.2.1 d.c16.c8.c4.1 d.c16.c8.c4.2.1 d.c16.c8.c4.2.2.1 d.c16.c8.c4.2.2.2.1 d.c16.c16.1 d.c16.c16.2.1 d.c16.c16.2.2.1 d.c16.c16.2.2.2.1 d.c16.c16.c4.1 d.c16.c16.c4.2.1 d.c16.c16.c4.2.2.1 d.c16.c16.c4.2.2.2.1 d.c16.c16.c8.1 d.c16.c16.c8.2.1 d.c16.c16.c8.2.2.1 d.c16.c16.c8.2.2.2.1 d.c16.c16.c8.c4.1 d.c16.c16.c8.c4.2.1 d.c16.c16.c8.c4.2.2.1 d.c16.c16.c8.c4.2.2.2.1 d.c16.c16.c16.1 d.c16.c16.c16.2.1 d.c16.c16.c16.2.2 c x) k _ d
theorem ds_astrolabelaw13_RingPlays_1 {ρ : Type} (g_astrolabelaw13_awake : Option Bool) (g_ring_New : Int → Option (Unit ⊕ Int × NI)) (g___ring_Buffer__Put : RGPg19) (g_astrolaberef13_Put : RGPg9) (g___ring_Buffer__Pop : RGPg10) (g_astrolaberef13_Pop : RGPg11) (g___ring_Buffer__Spoilt : RGPg12) (g_astrolaberef13_Spoilt : RGPg13) (g___ring_Buffer__Peek : RGPg14) (g___ring_Buffer__Len : RGPg15) (g___ring_Buffer__Horizon : RGPg15) (g__ring_Counts__Total : Int → Int → Int → Int → Int → Option Int) (l_1 : ∀ {ρ : Type}, (Nat × NI × NI × (Nat →
  Int) × RGPt28) →
  ((Unit ⊕ Nat × NI × NI × NI × NI × NI × NI × NI × NI × NI × NI × Int × Nat × Nat × Int × Nat × NI × NI × NI × NI × NI × NI × NI × NI × (Nat →
  Int) × RGPt29) → Option ρ) → Option ρ) (l_2 : ∀ {ρ : Type}, (Nat × NI × NI × NI × NI × NI × NI × NI × NI × NI × NI × Int × Nat × NI × NI ×
  NI × NI × NI × NI × NI × NI × NI × NI × Bool × Int × Int × Int × Int × Int × Int × Nat × Bool × Int × Int × Nat × Nat × Bool × Int × Int × Int × Int × Int × Int × Nat × NI × NI × NI × NI × (Nat →
  Int) × RGPt21) → ((Unit ⊕ Nat × NI × NI × NI × NI × NI × NI × (Nat →
  Int) × NI × NI × NI × Int × Bool × Nat × NI × NI × NI × NI × NI × NI × NI × NI × NI × NI × Bool × Int × Int × Int × Int × Int × Int × Int × Int × Int × Int × Int × Int × Int × Int × Int ×
  Int × Int × Int × Int × Bool × Int × Nat × Nat × Bool × Int × Bool × Int × Int × Bool × Bool × Bool × Int × Int × Int × Int × Int × Int × Int × Int × Int × Bool × Int × Int × Int × Bool × Int × Nat × Bool × Int × Int × Nat × NI × NI × NI × NI × NI × (Nat →
  Int) × RGPt30 ⊕ Nat × NI × NI × NI × NI × NI × NI × NI × NI × (Nat →
  Int) × NI × Int × Bool × Nat × NI × NI × NI × NI × NI × NI × NI × NI × NI × NI × Bool × Int × Int × Int × Int × Int × Int × Int × Int × Int × Int × Int × Int × Int × Int × Int × Int × Int × Int × Int ×
  Bool × Int × Nat × Nat × Bool × Int × Bool × Int × Int × Bool × Bool × Bool × Int × Int × Int × Bool × Int × Nat × Bool × Int × Int × Nat × NI × NI × NI × NI × NI × NI × NI × NI × NI × Nat × NI × NI × (Nat →
  Int) × NI × NI × NI × NI × NI × NI) → Option ρ) → Option ρ) (l_0 : ∀ {ρ : Type}, (RGPt37) → ((Unit ⊕ RGPt42) →
  Option ρ) → Option ρ) (x0 : Nat) (x1 : Nat → Int) (x2 : Nat → Int) (x3 : Nat → Int) (x4 : Nat → Int) (x5 : Nat → Int) (x6 : Nat → Int) (x7 : Nat → Int) (x8 : Nat → Int) (x9 : Nat → Int) (x10 : Nat → Int) (x11 : Int) (x12 : Nat) (x13 : Nat) (x14 : Int) (x15 : Nat) (x16 : Nat → Int) (x17 : Nat → Int) (x18 : Nat →
  Int) (x19 : Nat → Int) (x20 : Nat → Int) (x21 : Nat → Int) (x22 : Nat → Int) (x23 : Nat → Int) (x24 : Nat → Int) (x25 : Nat → Int) (x26 : Bool) (x27 : Int) (x28 : Int) (x29 : Int) (x30 : Int) (x31 : Int) (x32 : Int) (x33 : Nat) (x34 : Int) (x35 : Int) (x36 : Nat) (x37 : Nat) (x38 : Bool) (x39 : Int) (x40 : Int) (x41 : Int) (x42 : Int) (x43 : Int) (x44 : Int) (x45 : Nat) (x46 : Nat →
  Int) (x47 : Nat → Int) (x48 : Nat → Int) (x49 : Nat → Int) (x50 : Nat → Int) (x51 : Nat → Int) (x52 : Nat → Int) (x53 : Nat → Int) (x54 : Nat → Int) (x55 : Nat) (x56 : Nat → Int) (x57 : Nat → Int) (x58 : Nat → Int) (x59 : Nat → Int) (x60 : Nat → Int) (x61 : Nat → Int) (x62 : Nat → Int) (x63 : Nat → Int) (x64 : Nat →
  Int) (x65 : Nat) (x66 : Nat → Int) (x67 : Nat → Int) (x68 : Nat → Int) (x69 : Nat → Int) (x70 : Nat → Int) (x71 : Nat → Int) (x72 : Nat → Int) (x73 : Nat → Int) (x74 : Nat → Int) (x75 : Nat) (x76 : Nat → Int) (x77 : Nat → Int) (x78 : Nat → Int) (x79 : Nat → Int) (x80 : Nat → Int) (x81 : Nat → Int) (x82 : Nat →
  Int) (x83 : Nat → Int) (x84 : Nat → Int) (c : St → Option ρ) (K : AX → St → Option ρ) : runC Try.prog (envOf [(15, F_astrolabelaw13_awake g_astrolabelaw13_awake), (16, F_ring_New g_ring_New), (17, F___ring_Buffer__Put g___ring_Buffer__Put), (21, F_astrolaberef13_Put g_astrolaberef13_Put),
  (22, F___ring_Buffer__Pop g___ring_Buffer__Pop), (23, F_astrolaberef13_Pop g_astrolaberef13_Pop), (24, F___ring_Buffer__Spoilt g___ring_Buffer__Spoilt), (25, F_astrolaberef13_Spoilt g_astrolaberef13_Spoilt), (18, F___ring_Buffer__Peek g___ring_Buffer__Peek), (26, F___ring_Buffer__Len g___ring_Buffer__Len),
  (19, F___ring_Buffer__Horizon g___ring_Buffer__Horizon), (27, F__ring_Counts__Total g__ring_Counts__Total), (20, F_astrolaberef13_New f_astrolaberef13_New)]) ⟨[⟨10, [0, 2, 3, 4, 6, 9, 10, 11, 12, 13, 14, 15, 16, 17, 18, 19, 20, 21, 22, 23, 24, 25, 26, 27, 28, 29, 30, 32, 33, 34, 35, 36,
  37, 38, 39, 40, 42, 43, 44, 45, 46, 47, 48, 49, 50, 51, 52, 53, 54, 55, 56, 57, 58, 59, 60, 61, 63, 64, 65, 66, 67, 68, 69, 70, 71, 72, 74, 75, 76, 77, 78, 79, 80, 81, 82, 83, 84, 85, 86, 87, 88, 89, 90, 91, 92, 93, 94, 95, 96, 97, 98, 99, 100, 101, 102, 103, 104, 105, 106, 107, 108, 109, 110, 111, 112,
  113, 114, 115, 116, 117, 118, 119, 120, 121, 122, 123, 124, 125, 126, 127, 128, 129, 130, 131, 132, 133, 134, 135, 136, 137, 138, 139, 140, 141, 142, 143, 144, 145, 146, 147, 148, 149, 150, 151, 152, 153, 154, 163, 164, 172, 173, 182, 183, 195, 196, 211, 62, 73, 155, 156, 157, 158, 159, 160, 161, 162,
  165, 166, 167, 168, 169, 170, 171, 174, 175, 176, 177, 178, 179, 180, 181, 184, 185, 186, 187, 188, 189, 190, 191, 192, 193, 194, 197, 198, 199, 200, 201, 202, 203, 204, 205, 206, 207, 208, 209, 210], [(0, [])]⟩, ⟨24, [0, 2, 3, 4, 6, 12, 13, 14, 15, 16, 17, 18, 19, 20, 21, 22, 23, 24, 25, 26, 27, 28,
  29, 30, 32, 33, 34, 35, 36, 37, 38, 39, 40, 42, 43, 44, 45, 46, 47, 48, 49, 51, 52, 53, 54, 55, 56, 57, 58, 59, 61, 63, 64, 65, 66, 67, 68, 69, 70, 71, 72, 74, 75, 76, 77, 78, 79, 80, 81, 82, 83, 84, 85, 86, 87, 88, 89, 90, 91, 92, 93, 94, 95, 96, 97, 98, 99, 100, 101, 102, 103, 104, 105, 106, 107, 108,
  109, 110, 111, 112, 113, 114, 115, 116, 117, 118, 119, 120, 121, 122, 123, 124, 125, 126, 127, 128, 129, 130, 131, 132, 133, 134, 135, 136, 137, 138, 139, 140, 141, 142, 143, 144, 145, 146, 147, 148, 149, 150, 151, 152, 153, 154, 163, 164, 172, 173, 182, 183, 195, 196, 211], [(0, [])]⟩], [⟨24, 0, @R_astrolabelaw13_RingPlays_1 (@l_1)⟩,
  ⟨10, 0, @R_astrolabelaw13_RingPlays_0 (@l_0)⟩], [], [⟨⟨29, [0, 2, 3, 4, 6, 9, 10, 11, 12, 13, 14, 15, 16, 17, 18, 19, 20, 21, 22, 23, 24, 25, 26, 27, 28, 29, 30, 32, 33, 34, 35, 36, 37, 38, 39, 40, 42, 43, 44, 45, 46, 47, 48, 49, 51, 52, 53, 54, 55, 56, 57, 58, 59, 61, 63, 64, 65, 66, 67, 68, 69, 70,
  71, 72, 74, 75, 76, 77, 78, 79, 80, 81, 82, 83, 84, 85, 86, 87, 88, 89, 90, 91, 92, 93, 94, 95, 96, 97, 98, 99, 100, 101, 102, 103, 104, 105, 106, 107, 108, 109, 110, 111, 112, 113, 114, 115, 116, 117, 118, 119, 120, 121, 122, 123, 124, 125, 126, 127, 128, 129, 130, 131, 132, 133, 134, 135, 136, 137,
  138, 139, 140, 141, 142, 143, 144, 145, 146, 147, 148, 149, 150, 151, 152, 153, 154, 163, 164, 172, 173, 182, 183, 195, 196, 211, 62, 73], [(0, [])]⟩, ⟨29, 0, @R_astrolabelaw13_RingPlays_2 (@l_2)⟩⟩], (some ⟨0, [0, 1, 2, 3, 5, 6, 7, 8, 9, 10, 11, 12, 13, 14, 15, 16, 17, 18, 19, 20, 21, 22, 23, 24, 25,
  26, 27, 28, 29, 30, 31, 32, 33, 34, 35, 36, 37, 38, 39, 40, 41, 42, 43, 44, 45, 46, 47, 48, 49, 50, 51, 52, 53, 54, 55, 56, 57, 58, 59, 60, 61, 62, 63, 64, 65, 66, 67, 68, 69, 70, 71, 72, 73, 74, 75, 76, 77, 78, 79, 80, 81, 82, 83, 84, 85, 86, 87, 88, 89, 90, 91, 92, 93, 94, 95, 96, 97, 98, 99, 100,
  101, 102, 103, 104, 105, 106, 107, 108, 109, 110, 111, 112, 113, 114, 115, 116, 117, 118, 119, 120, 121, 122, 123, 124, 125, 126, 127, 128, 129, 130, 131, 132, 133, 134, 135, 136, 137, 138, 139, 140, 141, 142, 143, 144, 145, 146, 147, 148, 149, 150, 151, 152, 153, 154, 155, 156, 157, 158, 159, 160, 161,
  162, 163, 164, 165, 166, 167, 168, 169, 170, 171, 172, 173, 174, 175, 176, 177, 178, 179, 180, 181, 182, 183, 184, 185, 186, 187, 188, 189, 190, 191, 192, 193, 194, 195, 196, 197, 198, 199, 200, 201, 202, 203, 204, 205, 206, 207, 208, 209, 210, 211], []⟩)⟩ (tmpsOf Try.prog 4) 0 200 (loopIn Try.prog 4 24) (St.mk [und,
  AV.r (RV.c (CV.fs x0 10 [kI x1, kI x2, kI x3, kI x4, kI x5, kI x6, kI x7, kI x8, kI x9, kI x10])), und, und, und, AV.r (RV.c (CV.ptr 0 (Off.k 0) 8)),
  und, AV.r (RV.c (CV.ptr 1 (Off.k 0) 8)), AV.r (RV.c (fI x11)), AV.r (RV.c (CV.sl 2 (Off.x 0 0 9) (Sz.s x12) 9 true)), AV.r (RV.c (CV.sl 3 (Off.x 0 0 9) (Sz.s x13) 9 true)), AV.r (RV.c (fI x14)), und, und, und, und, und, und, und, und,
  und, und, und, und, und, und, und, und, und, und, und, AV.tup [], und, und, und, und, und, und, und, und, und, AV.tup [], und, und, und, und, und, und, und, und, AV.r (RV.c (CV.fs x15 10 [kI x16, kI x17,
  kI x18, kI x19, kI x20, kI x21, kI x22, kI x23, kI x24, kI x25])), und, und, und, und, und, und, und, und, und, AV.r (RV.c (CV.f (FV.b x26))), und, und,
  und, und, und, und, und, und, und, und, und, und, und, und, und, und, und, und, und, und, und, und, und, und, und, und, und, und, und, und, und, und, und, und, und, und, und, und, und, und,
  und, und, und, und, und, und, und, und, und, und, und, und, und, und, und, und, und, und, und, und, und, und, und, und, und, und, und, und, und, und, und, und, und, und, und, und, und, und,
  und, und, und, und, und, und, und, und, und, und, und, und, und, und, und, und, und, und, und, und, und, und, und, und, und, und, und, und, und, und, und, und, und, und, und, und, und, und,
  und, und, und, und, und, und, und, und, und, und, und, und, und, und, und, und, und, und, und, und, und, und, und, und, und, und, und, und, und, und, und, und, und, und, und] [some [Sg.c (fI x27),
  Sg.c (fI x28), Sg.c (fI x29), Sg.c (fI x30), Sg.c (fI x31), Sg.c (fI x32), Sg.c (CV.sl 4 (Off.x 0 0 9) (Sz.s x33) 9 true), Sg.c (fI x34)], some [Sg.c (fI x35),
  Sg.c (CV.sl 5 (Off.x 0 x36 9) (Sz.s x37) 9 x38), Sg.c (fI x39), Sg.c (fI x40), Sg.c (fI x41), Sg.c (fI x42), Sg.c (fI x43), Sg.c (fI x44)], some [Sg.a (Sz.s x45) [kI x46,
  kI x47, kI x48, kI x49, kI x50, kI x51, kI x52, kI x53, kI x54]], some [Sg.a (Sz.s x55) [kI x56, kI x57, kI x58, kI x59,
  kI x60, kI x61, kI x62, kI x63, kI x64]], some [Sg.a (Sz.s x65) [kI x66, kI x67, kI x68, kI x69, kI x70, kI x71, kI x72,
  kI x73, kI x74]], some [Sg.a (Sz.s x75) [kI x76, kI x77, kI x78, kI x79, kI x80, kI x81, kI x82, kI x83, kI x84]]] []) (next (fun t => t.head 0 ⟨[⟨10,
  [0, 2, 3, 4, 6, 9, 10, 11, 12, 13, 14, 15, 16, 17, 18, 19, 20, 21, 22, 23, 24, 25, 26, 27, 28, 29, 30, 32, 33, 34, 35, 36, 37, 38, 39, 40, 42, 43, 44, 45, 46, 47, 48, 49, 50, 51, 52, 53, 54, 55, 56, 57, 58, 59, 60, 61, 63, 64, 65, 66, 67, 68, 69, 70, 71, 72, 74, 75, 76, 77, 78, 79, 80, 81, 82, 83, 84,
  85, 86, 87, 88, 89, 90, 91, 92, 93, 94, 95, 96, 97, 98, 99, 100, 101, 102, 103, 104, 105, 106, 107, 108, 109, 110, 111, 112, 113, 114, 115, 116, 117, 118, 119, 120, 121, 122, 123, 124, 125, 126, 127, 128, 129, 130, 131, 132, 133, 134, 135, 136, 137, 138, 139, 140, 141, 142, 143, 144, 145, 146, 147, 148,
  149, 150, 151, 152, 153, 154, 163, 164, 172, 173, 182, 183, 195, 196, 211, 62, 73, 155, 156, 157, 158, 159, 160, 161, 162, 165, 166, 167, 168, 169, 170, 171, 174, 175, 176, 177, 178, 179, 180, 181, 184, 185, 186, 187, 188, 189, 190, 191, 192, 193, 194, 197, 198, 199, 200, 201, 202, 203, 204, 205, 206,
  207, 208, 209, 210], [(0, [])]⟩, ⟨24, [0, 2, 3, 4, 6, 12, 13, 14, 15, 16, 17, 18, 19, 20, 21, 22, 23, 24, 25, 26, 27, 28, 29, 30, 32, 33, 34, 35, 36, 37, 38, 39, 40, 42, 43, 44, 45, 46, 47, 48, 49, 51, 52, 53, 54, 55, 56, 57, 58, 59, 61, 63, 64, 65, 66, 67, 68, 69, 70, 71, 72, 74, 75, 76, 77, 78, 79,
  80, 81, 82, 83, 84, 85, 86, 87, 88, 89, 90, 91, 92, 93, 94, 95, 96, 97, 98, 99, 100, 101, 102, 103, 104, 105, 106, 107, 108, 109, 110, 111, 112, 113, 114, 115, 116, 117, 118, 119, 120, 121, 122, 123, 124, 125, 126, 127, 128, 129, 130, 131, 132, 133, 134, 135, 136, 137, 138, 139, 140, 141, 142, 143, 144,
  145, 146, 147, 148, 149, 150, 151, 152, 153, 154, 163, 164, 172, 173, 182, 183, 195, 196, 211], [(0, [])]⟩], [⟨24, 0, @R_astrolabelaw13_RingPlays_1 (@l_1)⟩, ⟨10, 0, @R_astrolabelaw13_RingPlays_0 (@l_0)⟩], [], [⟨⟨29, [0, 2, 3, 4, 6, 9, 10, 11, 12, 13, 14, 15, 16, 17, 18, 19, 20, 21, 22, 23, 24, 25, 26,
  27, 28, 29, 30, 32, 33, 34, 35, 36, 37, 38, 39, 40, 42, 43, 44, 45, 46, 47, 48, 49, 51, 52, 53, 54, 55, 56, 57, 58, 59, 61, 63, 64, 65, 66, 67, 68, 69, 70, 71, 72, 74, 75, 76, 77, 78, 79, 80, 81, 82, 83, 84, 85, 86, 87, 88, 89, 90, 91, 92, 93, 94, 95, 96, 97, 98, 99, 100, 101, 102, 103, 104, 105, 106,
  107, 108, 109, 110, 111, 112, 113, 114, 115, 116, 117, 118, 119, 120, 121, 122, 123, 124, 125, 126, 127, 128, 129, 130, 131, 132, 133, 134, 135, 136, 137, 138, 139, 140, 141, 142, 143, 144, 145, 146, 147, 148, 149, 150, 151, 152, 153, 154, 163, 164, 172, 173, 182, 183, 195, 196, 211, 62, 73], [(0, [])]⟩,
  ⟨29, 0, @R_astrolabelaw13_RingPlays_2 (@l_2)⟩⟩], (some ⟨0, [0, 1, 2, 3, 5, 6, 7, 8, 9, 10, 11, 12, 13, 14, 15, 16, 17, 18, 19, 20, 21, 22, 23, 24, 25, 26, 27, 28, 29, 30, 31, 32, 33, 34, 35, 36, 37, 38, 39, 40, 41, 42, 43, 44, 45, 46, 47, 48, 49, 50, 51, 52, 53, 54, 55, 56, 57, 58, 59, 60, 61, 62, 63,
  64, 65, 66, 67, 68, 69, 70, 71, 72, 73, 74, 75, 76, 77, 78, 79, 80, 81, 82, 83, 84, 85, 86, 87, 88, 89, 90, 91, 92, 93, 94, 95, 96, 97, 98, 99, 100, 101, 102, 103, 104, 105, 106, 107, 108, 109, 110, 111, 112, 113, 114, 115, 116, 117, 118, 119, 120, 121, 122, 123, 124, 125, 126, 127, 128, 129, 130, 131,
  132, 133, 134, 135, 136, 137, 138, 139, 140, 141, 142, 143, 144, 145, 146, 147, 148, 149, 150, 151, 152, 153, 154, 155, 156, 157, 158, 159, 160, 161, 162, 163, 164, 165, 166, 167, 168, 169, 170, 171, 172, 173, 174, 175, 176, 177, 178, 179, 180, 181, 182, 183, 184, 185, 186, 187, 188, 189, 190, 191, 192,
  193, 194, 195, 196, 197, 198, 199, 200, 201, 202, 203, 204, 205, 206, 207, 208, 209, 210, 211], []⟩)⟩ (loopIn Try.prog 4 24)) c K) = S_astrolabelaw13_RingPlays_1 g_astrolabelaw13_awake g_ring_New g___ring_Buffer__Put g_astrolaberef13_Put g___ring_Buffer__Pop g_astrolaberef13_Pop g___ring_Buffer__Spoilt g_astrolaberef13_Spoilt g___ring_Buffer__Peek g___ring_Buffer__Len g___ring_Buffer__Horizon g__ring_Counts__Total x0 x1 x2 x3 x4 x5 x6 x7 x8 x9 x10 x11 x12 x13 x14 x15 x16 x17 x18 x19 x20 x21 x22 x23 x24 x25 x26 x27 x28 x29 x30 x31 x32 x33 x34 x35 x36 x37 x38 x39 x40 x41 x42 x43 x44 x45 x46 x47 x48 x49 x50 x51 x52 x53 x54 x55 x56 x57 x58 x59 x60 x61 x62 x63 x64 x65 x66 x67 x68 x69 x70 x71 x72 x73 x74 x75 x76 x77 x78 x79 x80 x81 x82 x83 x84 (fun d => c (St.mk [und,
  AV.r (RV.c (CV.fs d.1 10 [kI d.2.1, kI d.2.2.1, kI d.2.2.2.1, kI d.c4.1, kI d.c4.2.1, kI d.c4.2.2.1, kI d.c4.2.2.2.1,
  kI d.c8.1, kI d.c8.2.1, kI d.c8.2.2.1])), und, und, und, AV.r (RV.c (CV.ptr 0 (Off.k 0) 8)), und, AV.r (RV.c (CV.ptr 1 (Off.k 0) 8)), AV.r (RV.c (fI d.c8.2.2.2.1)),
  AV.r (RV.c (CV.sl 2 (Off.x 0 0 9) (Sz.s d.c8.c4.1) 9 true)), AV.r (RV.c (CV.sl 3 (Off.x 0 0 9) (Sz.s d.c8.c4.2.1) 9 true)), AV.r (RV.c (fI d.c8.c4.2.2.1)),
  und, und, und, und, und, und, und, und, und, und, und, und, und, und, und, und, und, und, und, AV.tup [], und, und, und, und, und, und, und, und, und, AV.tup [], und, und, und, und, und, und, und,
  und, AV.r (RV.c (CV.fs d.c8.c4.2.2.2.1 10 [kI d.c16.1, kI d.c16.2.1, kI d.c16.2.2.1,
  kI d.c16.2.2.2.1, kI d.c16.c4.1, kI d.c16.c4.2.1,
  kI d.c16.c4.2.2.1, kI d.c16.c4.2.2.2.1, kI d.c16.c8.1,
  kI d.c16.c8.2.1])), und, und, und, und, und, und, und, und, und, AV.r (RV.c (CV.f (FV.b d.c16.c8.2.2.1))),
  und, und, und, und, und, und, und, und, und, und, und, und, und, und, und, und, und, und, und, und, und, und, und, und, und, und, und, und, und, und, und, und, und, und, und, und, und, und,
  und, und, und, und, und, und, und, und, und, und, und, und, und, und, und, und, und, und, und, und, und, und, und, und, und, und, und, und, und, und, und, und, und, und, und, und, und, und,
  und, und, und, und, und, und, und, und, und, und, und, und, und, und, und, und, und, und, und, und, und, und, und, und, und, und, und, und, und, und, und, und, und, und, und, und, und, und,
  und, und, und, und, und, und, und, und, und, und, und, und, und, und, und, und, und, und, und, und, und, und, und, und, und, und, und, und, und, und, und, und, und, und, und, und, und] [some [Sg.c (fI d.c16.c8.2.2.2.1),
  Sg.c (fI d.c16.c8.c4.1), Sg.c (fI d.c16.c8.c4.2.1),
  Sg.c (fI d.c16.c8.c4.2.2.1), Sg.c (fI d.c16.c8.c4.2.2.2.1),
  Sg.c (fI d.c16.c16.1), Sg.c (CV.sl 4 (Off.x 0 0 9) (Sz.s d.c16.c16.2.1) 9 true),
  Sg.c (fI d.c16.c16.2.2.1)], some [Sg.c (fI d.c16.c16.2.2.2.1),
  Sg.c (CV.sl 5 (Off.x 0 d.c16.c16.c4.1 9) (Sz.s d.c16.c16.c4.2.1) 9 d.c16.c16.c4.2.2.1),
  Sg.c (fI d.c16.c16.c4.2.2.2.1), Sg.c (fI d.c16.c16.c8.1),
  Sg.c (fI d.c16.c16.c8.2.1), Sg.c (fI d.c16.c16.c8.2.2.1),
  Sg.c (fI d.c16.c16.c8.2.2.2.1), Sg.c (fI d.c16.c16.c8.c4.1)],
  some [Sg.a (Sz.s d.c16.c16.c8.c4.2.1) [kI d.c16.c16.c8.c4.2.2.1,
  kI d.c16.c16.c8.c4.2.2.2.1, kI d.c16.c16.c16.1,
  kI d.c16.c16.c16.2.1, kI d.c16.c16.c16.2.2.1,
  kI d.c16.c16.c16.2.2.2.1, kI d.c16.c16.c16.c4.1,
  kI d.c16.c16.c16.c4.2.1, kI d.c16.c16.c16.c4.2.2.1]],
  some [Sg.a (Sz.s d.c16.c16.c16.c4.2.2.2.1) [kI d.c16.c16.c16.c8.1,
  kI d.c16.c16.c16.c8.2.1, kI d.c16.c16.c16.c8.2.2.1,
  kI d.c16.c16.c16.c8.2.2.2.1, kI d.c16.c16.c16.c8.c4.1,
  kI d.c16.c16.c16.c8.c4.2.1, kI d.c16.c16.c16.c8.c4.2.2.1,
  kI d.c16.c16.c16.c8.c4.2.2.2.1, kI d.c16.c16.c16.c16.1]],
  some [Sg.a (Sz.s d.c16.c16.c16.c16.2.1) [kI d.c16.c16.c16.c16.2.2.1,
  kI d.c16.c16.c16.c16.2.2.2.1, kI d.c16.c16.c16.c16.c4.1,
  kI d.c16.c16.c16.c16.c4.2.1,
  kI d.c16.c16.c16.c16.c4.2.2.1,
  kI d.c16.c16.c16.c16.c4.2.2.2.1,
  kI d.c16.c16.c16.c16.c8.1,
  kI d.c16.c16.c16.c16.c8.2.1,
  kI d.c16.c16.c16.c16.c8.2.2.1]],
  some [Sg.a (Sz.s d.c16.c16.c16.c16.c8.2.2.2.1) [kI d.c16.c16.c16.c16.c8.c4.1,
  kI d.c16.c16.c16.c16.c8.c4.2.1,
  kI d.c16.c16.c16.c16.c8.c4.2.2.1,
  kI d.c16.c16.c16.c16.c8.c4.2.2.2.1,
  kI d.c16.c16.c16.c16.c16.1,
  kI d.c16.c16.c16.c16.c16.2.1,
  kI d.c16.c16.c16.c16.c16.2.2.1,
  kI d.c16.c16.c16.c16.c16.2.2.2.1,
  kI d.c16.c16.c16.c16.c16.c4]]] [])) (Sum.elim (fun d => K (AX.ret) (St.mk [und,
  und, und, und, AV.r (RV.c (CV.f (FV.b false))), und, und, und, und, und, und, und, und, und, und, und, und, und, und, und, und, und, und, und, und, und, und, und, und, und, und, und, und, und, und, und,
  und, und, und, und, und, und, und, und, und, und, und, und, und, und, und, und, und, und, und, und, und, und, und, und, und, und, und, und, und, und, und, und, und, und, und, und, und, und,
  und, und, und, und, und, und, und, und, und, und, und, und, und, und, und, und, und, und, und, und, und, und, und, und, und, und, und, und, und, und, und, und, und, und, und, und, und, und,
  und, und, und, und, und, und, und, und, und, und, und, und, und, und, und, und, und, und, und, und, und, und, und, und, und, und, und, und, und, und, und, und, und, und, und, und, und, und,
  und, und, und, und, und, und, und, und, und, und, und, und, und, und, und, und, und, und, und, und, und, und, und, und, und, und, und, und, und, und, und, und, und, und, und, und, und, und,
  und, und, und, und, und, und, und, und, und, und, und, und, und, und, und, und, und, und, und, und, und, und, und, und] [] [])) (fun d => K (AX.ex 3) (St.mk [und, AV.r (RV.c (CV.fs d.1 10 [kI d.2.1, kI d.2.2.1,
  kI d.2.2.2.1, kI d.c4.1, kI d.c4.2.1, kI d.c4.2.2.1, kI d.c4.2.2.2.1, kI d.c8.1, kI d.c8.2.1,
  kI d.c8.2.2.1])), und, und, und, AV.r (RV.c (CV.ptr 0 (Off.k 0) 8)), und, AV.r (RV.c (CV.ptr 1 (Off.k 0) 8)), AV.r (RV.c (fI d.c8.2.2.2.1)), AV.r (RV.c (CV.sl 2 (Off.x 0 0 9) (Sz.s d.c8.c4.1) 9 true)),
  AV.r (RV.c (CV.sl 3 (Off.x 0 0 9) (Sz.s d.c8.c4.2.1) 9 true)), AV.r (RV.c (fI d.c8.c4.2.2.1)), und, und, und, und, und, und, und, und, und, und, und, und,
  und, und, und, und, und, und, und, AV.tup [], und, und, und, und, und, und, und, und, und, AV.tup [], und, und, und, und, und, und, und, und, AV.r (RV.c (CV.fs d.c8.c4.2.2.2.1 10 [kI d.c16.1,
  kI d.c16.2.1, kI d.c16.2.2.1, kI d.c16.2.2.2.1, kI d.c16.c4.1,
  kI d.c16.c4.2.1, kI d.c16.c4.2.2.1, kI d.c16.c4.2.2.2.1,
  kI d.c16.c8.1, kI d.c16.c8.2.1])), und, und, und, und, und, und, und,
  und, und, AV.r (RV.c (CV.f (FV.b d.c16.c8.2.2.1))), und, und, und, und, und, und, und, und, und, und, und, und, und, und, und, und, und, und, und,
  und, und, und, und, und, und, und, und, und, und, und, und, und, und, und, und, und, und, und, AV.r (RV.c (fI d.c8.c4.2.2.1)), AV.r (RV.c (CV.sl 2 (Off.x 0 0 9) (Sz.s d.c8.c4.1) 9 true)),
  AV.r (RV.c (fI d.c16.c8.2.2.2.1)), AV.r (RV.c (CV.f (FV.b d.c16.c8.c4.1))), und,
  und, und, und, und, und, und, und, und, und, und, und, und, und, und, und, und, und, und, und, und, und, und, und, und, und, und, und, und, und, und, und, und, und, und, und, und, und, und,
  und, und, und, und, und, und, und, und, und, und, und, und, und, und, und, und, und, und, und, und, und, und, und, und, und, und, und, und, und, und, und, und, und, und, und, und, und, und,
  und, und, und, und, und, und, und, und, und, und, und, und, und, und, und, und, und, und, und, und, und, und, und, und, und, und, und, und, und, und, und, und] [some [Sg.c (fI d.c16.c8.c4.2.1),
  Sg.c (fI d.c16.c8.c4.2.2.1), Sg.c (fI d.c16.c8.c4.2.2.2.1),
  Sg.c (fI d.c16.c16.1), Sg.c (fI d.c16.c16.2.1),
  Sg.c (fI d.c16.c16.2.2.1), Sg.c (CV.sl 4 (Off.x 0 0 9) (Sz.s d.c16.c16.2.2.2.1) 9 true),
  Sg.c (fI d.c16.c16.c4.1)], some [Sg.c (fI d.c16.c16.c4.2.1),
  Sg.c (CV.sl 5 (Off.x 0 d.c16.c16.c4.2.2.1 9) (Sz.s d.c16.c16.c4.2.2.2.1) 9 d.c16.c16.c8.1),
  Sg.c (fI d.c16.c16.c8.2.1), Sg.c (fI d.c16.c16.c8.2.2.1),
  Sg.c (fI d.c16.c16.c8.2.2.2.1), Sg.c (fI d.c16.c16.c8.c4.1),
  Sg.c (fI d.c16.c16.c8.c4.2.1), Sg.c (fI d.c16.c16.c8.c4.2.2.1)],
  some [Sg.a (Sz.s d.c16.c16.c8.c4.2.2.2.1) [kI d.c16.c16.c16.1,
  kI d.c16.c16.c16.2.1, kI d.c16.c16.c16.2.2.1,
  kI d.c16.c16.c16.2.2.2.1, kI d.c16.c16.c16.c4.1,
  kI d.c16.c16.c16.c4.2.1, kI d.c16.c16.c16.c4.2.2.1,
  kI d.c16.c16.c16.c4.2.2.2.1, kI d.c16.c16.c16.c8.1]],
  some [Sg.a (Sz.s d.c16.c16.c16.c8.2.1) [kI d.c16.c16.c16.c8.2.2.1,
  kI d.c16.c16.c16.c8.2.2.2.1, kI d.c16.c16.c16.c8.c4.1,
  kI d.c16.c16.c16.c8.c4.2.1, kI d.c16.c16.c16.c8.c4.2.2.1,
  kI d.c16.c16.c16.c8.c4.2.2.2.1, kI d.c16.c16.c16.c16.1,
  kI d.c16.c16.c16.c16.2.1, kI d.c16.c16.c16.c16.2.2.1]],
  some [Sg.a (Sz.s d.c16.c16.c16.c16.2.2.2.1) [kI d.c16.c16.c16.c16.c4.1,
  kI d.c16.c16.c16.c16.c4.2.1,
  kI d.c16.c16.c16.c16.c4.2.2.1,
  kI d.c16.c16.c16.c16.c4.2.2.2.1,
  kI d.c16.c16.c16.c16.c8.1,
  kI d.c16.c16.c16.c16.c8.2.1,
  kI d.c16.c16.c16.c16.c8.2.2.1,
  kI d.c16.c16.c16.c16.c8.2.2.2.1,
  kI d.c16.c16.c16.c16.c8.c4.1]],
  some [Sg.a (Sz.s d.c16.c16.c16.c16.c8.c4.2.1) [kI d.c16.c16.c16.c16.c8.c4.2.2.1,
  kI d.c16.c16.c16.c16.c8.c4.2.2.2.1,
  kI d.c16.c16.c16.c16.c16.1,
  kI d.c16.c16.c16.c16.c16.2.1,
  kI d.c16.c16.c16.c16.c16.2.2.1,
  kI d.c16.c16.c16.c16.c16.2.2.2.1,
  kI d.c16.c16.c16.c16.c16.c4.1,
  kI d.c16.c16.c16.c16.c16.c4.2.1,
  kI d.c16.c16.c16.c16.c16.c4.2.2]]] []))) := by kernel_rfl
theorem it_astrolabelaw13_RingPlays_1 {ρ : Type} (x0 : Nat) (x1 : Nat → Int) (x2 : Nat → Int) (x3 : Nat → Int) (x4 : Nat → Int) (x5 : Nat → Int) (x6 : Nat → Int) (x7 : Nat → Int) (x8 : Nat → Int) (x9 : Nat → Int) (x10 : Nat → Int) (x11 : Int) (x12 : Nat) (x13 : Nat) (x14 : Int) (x15 : Nat) (x16 : Nat →
  Int) (x17 : Nat → Int) (x18 : Nat → Int) (x19 : Nat → Int) (x20 : Nat → Int) (x21 : Nat → Int) (x22 : Nat → Int) (x23 : Nat → Int) (x24 : Nat → Int) (x25 : Nat → Int) (x26 : Bool) (x27 : Int) (x28 : Int) (x29 : Int) (x30 : Int) (x31 : Int) (x32 : Int) (x33 : Nat) (x34 : Int) (x35 : Int) (x36 : Nat) (x37 : Nat) (x38 : Bool) (x39 : Int) (x40 : Int) (x41 : Int) (x42 : Int) (x43 : Int) (x44 : Int) (x45 : Nat) (x46 : Nat →
  Int) (x47 : Nat → Int) (x48 : Nat → Int) (x49 : Nat → Int) (x50 : Nat → Int) (x51 : Nat → Int) (x52 : Nat → Int) (x53 : Nat → Int) (x54 : Nat → Int) (x55 : Nat) (x56 : Nat → Int) (x57 : Nat → Int) (x58 : Nat → Int) (x59 : Nat → Int) (x60 : Nat → Int) (x61 : Nat → Int) (x62 : Nat → Int) (x63 : Nat → Int) (x64 : Nat →
  Int) (x65 : Nat) (x66 : Nat → Int) (x67 : Nat → Int) (x68 : Nat → Int) (x69 : Nat → Int) (x70 : Nat → Int) (x71 : Nat → Int) (x72 : Nat → Int) (x73 : Nat → Int) (x74 : Nat → Int) (x75 : Nat) (x76 : Nat → Int) (x77 : Nat → Int) (x78 : Nat → Int) (x79 : Nat → Int) (x80 : Nat → Int) (x81 : Nat → Int) (x82 : Nat →
  Int) (x83 : Nat → Int) (x84 : Nat → Int) (K : AX → St → Option ρ) : iter (fun t => t.head 0 ⟨[⟨10, [0, 2, 3, 4, 6, 9, 10, 11, 12, 13, 14, 15, 16, 17, 18, 19, 20, 21, 22, 23, 24, 25, 26, 27, 28, 29, 30, 32, 33, 34, 35, 36, 37, 38, 39, 40, 42, 43, 44, 45, 46, 47, 48, 49, 50, 51, 52, 53, 54, 55, 56, 57,
  58, 59, 60, 61, 63, 64, 65, 66, 67, 68, 69, 70, 71, 72, 74, 75, 76, 77, 78, 79, 80, 81, 82, 83, 84, 85, 86, 87, 88, 89, 90, 91, 92, 93, 94, 95, 96, 97, 98, 99, 100, 101, 102, 103, 104, 105, 106, 107, 108, 109, 110, 111, 112, 113, 114, 115, 116, 117, 118, 119, 120, 121, 122, 123, 124, 125, 126, 127, 128,
  129, 130, 131, 132, 133, 134, 135, 136, 137, 138, 139, 140, 141, 142, 143, 144, 145, 146, 147, 148, 149, 150, 151, 152, 153, 154, 163, 164, 172, 173, 182, 183, 195, 196, 211, 62, 73, 155, 156, 157, 158, 159, 160, 161, 162, 165, 166, 167, 168, 169, 170, 171, 174, 175, 176, 177, 178, 179, 180, 181, 184,
  185, 186, 187, 188, 189, 190, 191, 192, 193, 194, 197, 198, 199, 200, 201, 202, 203, 204, 205, 206, 207, 208, 209, 210], [(0, [])]⟩, ⟨24, [0, 2, 3, 4, 6, 12, 13, 14, 15, 16, 17, 18, 19, 20, 21, 22, 23, 24, 25, 26, 27, 28, 29, 30, 32, 33, 34, 35, 36, 37, 38, 39, 40, 42, 43, 44, 45, 46, 47, 48, 49, 51,
  52, 53, 54, 55, 56, 57, 58, 59, 61, 63, 64, 65, 66, 67, 68, 69, 70, 71, 72, 74, 75, 76, 77, 78, 79, 80, 81, 82, 83, 84, 85, 86, 87, 88, 89, 90, 91, 92, 93, 94, 95, 96, 97, 98, 99, 100, 101, 102, 103, 104, 105, 106, 107, 108, 109, 110, 111, 112, 113, 114, 115, 116, 117, 118, 119, 120, 121, 122, 123, 124,
  125, 126, 127, 128, 129, 130, 131, 132, 133, 134, 135, 136, 137, 138, 139, 140, 141, 142, 143, 144, 145, 146, 147, 148, 149, 150, 151, 152, 153, 154, 163, 164, 172, 173, 182, 183, 195, 196, 211], [(0, [])]⟩], [⟨24, 0, @R_astrolabelaw13_RingPlays_1 (@L_astrolabelaw13_RingPlays_1)⟩, ⟨10, 0, @R_astrolabelaw13_RingPlays_0 (@L_astrolabelaw13_RingPlays_0)⟩],
  [], [⟨⟨29, [0, 2, 3, 4, 6, 9, 10, 11, 12, 13, 14, 15, 16, 17, 18, 19, 20, 21, 22, 23, 24, 25, 26, 27, 28, 29, 30, 32, 33, 34, 35, 36, 37, 38, 39, 40, 42, 43, 44, 45, 46, 47, 48, 49, 51, 52, 53, 54, 55, 56, 57, 58, 59, 61, 63, 64, 65, 66, 67, 68, 69, 70, 71, 72, 74, 75, 76, 77, 78, 79, 80, 81, 82, 83,
  84, 85, 86, 87, 88, 89, 90, 91, 92, 93, 94, 95, 96, 97, 98, 99, 100, 101, 102, 103, 104, 105, 106, 107, 108, 109, 110, 111, 112, 113, 114, 115, 116, 117, 118, 119, 120, 121, 122, 123, 124, 125, 126, 127, 128, 129, 130, 131, 132, 133, 134, 135, 136, 137, 138, 139, 140, 141, 142, 143, 144, 145, 146, 147,
  148, 149, 150, 151, 152, 153, 154, 163, 164, 172, 173, 182, 183, 195, 196, 211, 62, 73], [(0, [])]⟩, ⟨29, 0, @R_astrolabelaw13_RingPlays_2 (@L_astrolabelaw13_RingPlays_2)⟩⟩], (some ⟨0, [0, 1, 2, 3, 5, 6, 7, 8, 9, 10, 11, 12, 13, 14, 15, 16, 17, 18, 19, 20, 21, 22, 23, 24, 25, 26, 27, 28, 29, 30, 31,
  32, 33, 34, 35, 36, 37, 38, 39, 40, 41, 42, 43, 44, 45, 46, 47, 48, 49, 50, 51, 52, 53, 54, 55, 56, 57, 58, 59, 60, 61, 62, 63, 64, 65, 66, 67, 68, 69, 70, 71, 72, 73, 74, 75, 76, 77, 78, 79, 80, 81, 82, 83, 84, 85, 86, 87, 88, 89, 90, 91, 92, 93, 94, 95, 96, 97, 98, 99, 100, 101, 102, 103, 104, 105,
  106, 107, 108, 109, 110, 111, 112, 113, 114, 115, 116, 117, 118, 119, 120, 121, 122, 123, 124, 125, 126, 127, 128, 129, 130, 131, 132, 133, 134, 135, 136, 137, 138, 139, 140, 141, 142, 143, 144, 145, 146, 147, 148, 149, 150, 151, 152, 153, 154, 155, 156, 157, 158, 159, 160, 161, 162, 163, 164, 165, 166,
  167, 168, 169, 170, 171, 172, 173, 174, 175, 176, 177, 178, 179, 180, 181, 182, 183, 184, 185, 186, 187, 188, 189, 190, 191, 192, 193, 194, 195, 196, 197, 198, 199, 200, 201, 202, 203, 204, 205, 206, 207, 208, 209, 210, 211], []⟩)⟩ (loopIn Try.prog 4 24)) (runC Try.prog (envOf [(15, F_astrolabelaw13_awake f_astrolabelaw13_awake),
  (16, F_ring_New f_ring_New), (17, F___ring_Buffer__Put f___ring_Buffer__Put), (21, F_astrolaberef13_Put f_astrolaberef13_Put), (22, F___ring_Buffer__Pop f___ring_Buffer__Pop), (23, F_astrolaberef13_Pop f_astrolaberef13_Pop), (24, F___ring_Buffer__Spoilt f___ring_Buffer__Spoilt),
  (25, F_astrolaberef13_Spoilt f_astrolaberef13_Spoilt), (18, F___ring_Buffer__Peek f___ring_Buffer__Peek), (26, F___ring_Buffer__Len f___ring_Buffer__Len), (19, F___ring_Buffer__Horizon f___ring_Buffer__Horizon), (27, F__ring_Counts__Total f__ring_Counts__Total), (20, F_astrolaberef13_New f_astrolaberef13_New)]) ⟨[⟨10,
  [0, 2, 3, 4, 6, 9, 10, 11, 12, 13, 14, 15, 16, 17, 18, 19, 20, 21, 22, 23, 24, 25, 26, 27, 28, 29, 30, 32, 33, 34, 35, 36, 37, 38, 39, 40, 42, 43, 44, 45, 46, 47, 48, 49, 50, 51, 52, 53, 54, 55, 56, 57, 58, 59, 60, 61, 63, 64, 65, 66, 67, 68, 69, 70, 71, 72, 74, 75, 76, 77, 78, 79, 80, 81, 82, 83, 84,
  85, 86, 87, 88, 89, 90, 91, 92, 93, 94, 95, 96, 97, 98, 99, 100, 101, 102, 103, 104, 105, 106, 107, 108, 109, 110, 111, 112, 113, 114, 115, 116, 117, 118, 119, 120, 121, 122, 123, 124, 125, 126, 127, 128, 129, 130, 131, 132, 133, 134, 135, 136, 137, 138, 139, 140, 141, 142, 143, 144, 145, 146, 147, 148,
  149, 150, 151, 152, 153, 154, 163, 164, 172, 173, 182, 183, 195, 196, 211, 62, 73, 155, 156, 157, 158, 159, 160, 161, 162, 165, 166, 167, 168, 169, 170, 171, 174, 175, 176, 177, 178, 179, 180, 181, 184, 185, 186, 187, 188, 189, 190, 191, 192, 193, 194, 197, 198, 199, 200, 201, 202, 203, 204, 205, 206,
  207, 208, 209, 210], [(0, [])]⟩, ⟨24, [0, 2, 3, 4, 6, 12, 13, 14, 15, 16, 17, 18, 19, 20, 21, 22, 23, 24, 25, 26, 27, 28, 29, 30, 32, 33, 34, 35, 36, 37, 38, 39, 40, 42, 43, 44, 45, 46, 47, 48, 49, 51, 52, 53, 54, 55, 56, 57, 58, 59, 61, 63, 64, 65, 66, 67, 68, 69, 70, 71, 72, 74, 75, 76, 77, 78, 79,
  80, 81, 82, 83, 84, 85, 86, 87, 88, 89, 90, 91, 92, 93, 94, 95, 96, 97, 98, 99, 100, 101, 102, 103, 104, 105, 106, 107, 108, 109, 110, 111, 112, 113, 114, 115, 116, 117, 118, 119, 120, 121, 122, 123, 124, 125, 126, 127, 128, 129, 130, 131, 132, 133, 134, 135, 136, 137, 138, 139, 140, 141, 142, 143, 144,
  145, 146, 147, 148, 149, 150, 151, 152, 153, 154, 163, 164, 172, 173, 182, 183, 195, 196, 211], [(0, [])]⟩], [⟨24, 0, @R_astrolabelaw13_RingPlays_1 (@L_astrolabelaw13_RingPlays_1)⟩, ⟨10, 0, @R_astrolabelaw13_RingPlays_0 (@L_astrolabelaw13_RingPlays_0)⟩], [], [⟨⟨29, [0, 2, 3, 4, 6, 9, 10, 11, 12, 13,
  14, 15, 16, 17, 18, 19, 20, 21, 22, 23, 24, 25, 26, 27, 28, 29, 30, 32, 33, 34, 35, 36, 37, 38, 39, 40, 42, 43, 44, 45, 46, 47, 48, 49, 51, 52, 53, 54, 55, 56, 57, 58, 59, 61, 63, 64, 65, 66, 67, 68, 69, 70, 71, 72, 74, 75, 76, 77, 78, 79, 80, 81, 82, 83, 84, 85, 86, 87, 88, 89, 90, 91, 92, 93, 94, 95,
  96, 97, 98, 99, 100, 101, 102, 103, 104, 105, 106, 107, 108, 109, 110, 111, 112, 113, 114, 115, 116, 117, 118, 119, 120, 121, 122, 123, 124, 125, 126, 127, 128, 129, 130, 131, 132, 133, 134, 135, 136, 137, 138, 139, 140, 141, 142, 143, 144, 145, 146, 147, 148, 149, 150, 151, 152, 153, 154, 163, 164,
  172, 173, 182, 183, 195, 196, 211, 62, 73], [(0, [])]⟩, ⟨29, 0, @R_astrolabelaw13_RingPlays_2 (@L_astrolabelaw13_RingPlays_2)⟩⟩], (some ⟨0, [0, 1, 2, 3, 5, 6, 7, 8, 9, 10, 11, 12, 13, 14, 15, 16, 17, 18, 19, 20, 21, 22, 23, 24, 25, 26, 27, 28, 29, 30, 31, 32, 33, 34, 35, 36, 37, 38, 39, 40, 41, 42, 43,
  44, 45, 46, 47, 48, 49, 50, 51, 52, 53, 54, 55, 56, 57, 58, 59, 60, 61, 62, 63, 64, 65, 66, 67, 68, 69, 70, 71, 72, 73, 74, 75, 76, 77, 78, 79, 80, 81, 82, 83, 84, 85, 86, 87, 88, 89, 90, 91, 92, 93, 94, 95, 96, 97, 98, 99, 100, 101, 102, 103, 104, 105, 106, 107, 108, 109, 110, 111, 112, 113, 114, 115,
  116, 117, 118, 119, 120, 121, 122, 123, 124, 125, 126, 127, 128, 129, 130, 131, 132, 133, 134, 135, 136, 137, 138, 139, 140, 141, 142, 143, 144, 145, 146, 147, 148, 149, 150, 151, 152, 153, 154, 155, 156, 157, 158, 159, 160, 161, 162, 163, 164, 165, 166, 167, 168, 169, 170, 171, 172, 173, 174, 175, 176,
  177, 178, 179, 180, 181, 182, 183, 184, 185, 186, 187, 188, 189, 190, 191, 192, 193, 194, 195, 196, 197, 198, 199, 200, 201, 202, 203, 204, 205, 206, 207, 208, 209, 210, 211], []⟩)⟩ (tmpsOf Try.prog 4) 0 200 (loopIn Try.prog 4 24)) K 200 (St.mk [und, AV.r (RV.c (CV.fs x0 10 [kI x1,
  kI x2, kI x3, kI x4, kI x5, kI x6, kI x7, kI x8, kI x9, kI x10])), und, und, und, AV.r (RV.c (CV.ptr 0 (Off.k 0) 8)), und, AV.r (RV.c (CV.ptr 1 (Off.k 0) 8)),
  AV.r (RV.c (fI x11)), AV.r (RV.c (CV.sl 2 (Off.x 0 0 9) (Sz.s x12) 9 true)), AV.r (RV.c (CV.sl 3 (Off.x 0 0 9) (Sz.s x13) 9 true)), AV.r (RV.c (fI x14)), und, und, und, und, und, und, und, und, und, und, und, und, und, und,
  und, und, und, und, und, AV.tup [], und, und, und, und, und, und, und, und, und, AV.tup [], und, und, und, und, und, und, und, und, AV.r (RV.c (CV.fs x15 10 [kI x16, kI x17, kI x18, kI x19,
  kI x20, kI x21, kI x22, kI x23, kI x24, kI x25])), und, und, und, und, und, und, und, und, und, AV.r (RV.c (CV.f (FV.b x26))), und, und, und, und, und, und, und, und,
  und, und, und, und, und, und, und, und, und, und, und, und, und, und, und, und, und, und, und, und, und, und, und, und, und, und, und, und, und, und, und, und, und, und, und, und, und, und,
  und, und, und, und, und, und, und, und, und, und, und, und, und, und, und, und, und, und, und, und, und, und, und, und, und, und, und, und, und, und, und, und, und, und, und, und, und, und,
  und, und, und, und, und, und, und, und, und, und, und, und, und, und, und, und, und, und, und, und, und, und, und, und, und, und, und, und, und, und, und, und, und, und, und, und, und, und,
  und, und, und, und, und, und, und, und, und, und, und, und, und, und, und, und, und, und, und, und, und, und, und, und, und, und, und, und, und] [some [Sg.c (fI x27), Sg.c (fI x28),
  Sg.c (fI x29), Sg.c (fI x30), Sg.c (fI x31), Sg.c (fI x32), Sg.c (CV.sl 4 (Off.x 0 0 9) (Sz.s x33) 9 true), Sg.c (fI x34)], some [Sg.c (fI x35), Sg.c (CV.sl 5 (Off.x 0 x36 9) (Sz.s x37) 9 x38),
  Sg.c (fI x39), Sg.c (fI x40), Sg.c (fI x41), Sg.c (fI x42), Sg.c (fI x43), Sg.c (fI x44)], some [Sg.a (Sz.s x45) [kI x46, kI x47, kI x48,
  kI x49, kI x50, kI x51, kI x52, kI x53, kI x54]], some [Sg.a (Sz.s x55) [kI x56, kI x57, kI x58, kI x59, kI x60, kI x61,
  kI x62, kI x63, kI x64]], some [Sg.a (Sz.s x65) [kI x66, kI x67, kI x68, kI x69, kI x70, kI x71, kI x72, kI x73, kI x74]],
  some [Sg.a (Sz.s x75) [kI x76, kI x77, kI x78, kI x79, kI x80, kI x81, kI x82, kI x83, kI x84]]] []) = L_astrolabelaw13_RingPlays_1 (x0, x1, x2, x3, x4, x5, x6, x7, x8,
  x9, x10, x11, x12, x13, x14, x15, x16, x17, x18, x19, x20, x21, x22, x23, x24, x25, x26, x27, x28, x29, x30, x31, x32, x33, x34, x35, x36, x37, x38, x39, x40, x41, x42, x43, x44, x45, x46, x47, x48, x49, x50, x51, x52, x53, x54, x55, x56, x57, x58, x59, x60, x61, x62, x63, x64, x65, x66, x67, x68, x69,
  x70, x71, x72, x73, x74, x75, x76, x77, x78, x79, x80, x81, x82, x83, x84) (Sum.elim (fun d => K (AX.ret) (St.mk [und, und, und, und, AV.r (RV.c (CV.f (FV.b false))), und, und, und, und, und, und, und, und, und, und, und, und, und, und, und, und,
  und, und, und, und, und, und, und, und, und, und, und, und, und, und, und, und, und, und, und, und, und, und, und, und, und, und, und, und, und, und, und, und, und, und, und, und, und, und,
  und, und, und, und, und, und, und, und, und, und, und, und, und, und, und, und, und, und, und, und, und, und, und, und, und, und, und, und, und, und, und, und, und, und, und, und, und, und,
  und, und, und, und, und, und, und, und, und, und, und, und, und, und, und, und, und, und, und, und, und, und, und, und, und, und, und, und, und, und, und, und, und, und, und, und, und, und,
  und, und, und, und, und, und, und, und, und, und, und, und, und, und, und, und, und, und, und, und, und, und, und, und, und, und, und, und, und, und, und, und, und, und, und, und, und, und,
  und, und, und, und, und, und, und, und, und, und, und, und, und, und, und, und, und, und, und, und, und, und, und, und, und, und, und, und, und, und, und, und, und, und, und, und, und, und,
  und] [] [])) (fun d => K (AX.ex 3) (St.mk [und, AV.r (RV.c (CV.fs d.1 10 [kI d.2.1, kI d.2.2.1, kI d.2.2.2.1, kI d.c4.1, kI d.c4.2.1, kI d.c4.2.2.1,
  kI d.c4.2.2.2.1, kI d.c8.1, kI d.c8.2.1, kI d.c8.2.2.1])), und, und, und, AV.r (RV.c (CV.ptr 0 (Off.k 0) 8)), und,
  AV.r (RV.c (CV.ptr 1 (Off.k 0) 8)), AV.r (RV.c (fI d.c8.2.2.2.1)), AV.r (RV.c (CV.sl 2 (Off.x 0 0 9) (Sz.s d.c8.c4.1) 9 true)), AV.r (RV.c (CV.sl 3 (Off.x 0 0 9) (Sz.s d.c8.c4.2.1) 9 true)),
  AV.r (RV.c (fI d.c8.c4.2.2.1)), und, und, und, und, und, und, und, und, und, und, und, und, und, und, und, und, und, und, und, AV.tup [], und, und, und, und, und,
  und, und, und, und, AV.tup [], und, und, und, und, und, und, und, und, AV.r (RV.c (CV.fs d.c8.c4.2.2.2.1 10 [kI d.c16.1, kI d.c16.2.1,
  kI d.c16.2.2.1, kI d.c16.2.2.2.1, kI d.c16.c4.1,
  kI d.c16.c4.2.1, kI d.c16.c4.2.2.1, kI d.c16.c4.2.2.2.1,
  kI d.c16.c8.1, kI d.c16.c8.2.1])), und, und, und, und, und, und, und,
  und, und, AV.r (RV.c (CV.f (FV.b d.c16.c8.2.2.1))), und, und, und, und, und, und, und, und, und, und, und, und, und, und, und, und, und, und, und,
  und, und, und, und, und, und, und, und, und, und, und, und, und, und, und, und, und, und, und, AV.r (RV.c (fI d.c8.c4.2.2.1)), AV.r (RV.c (CV.sl 2 (Off.x 0 0 9) (Sz.s d.c8.c4.1) 9 true)),
  AV.r (RV.c (fI d.c16.c8.2.2.2.1)), AV.r (RV.c (CV.f (FV.b d.c16.c8.c4.1))), und,
  und, und, und, und, und, und, und, und, und, und, und, und, und, und, und, und, und, und, und, und, und, und, und, und, und, und, und, und, und, und, und, und, und, und, und, und, und, und,
  und, und, und, und, und, und, und, und, und, und, und, und, und, und, und, und, und, und, und, und, und, und, und, und, und, und, und, und, und, und, und, und, und, und, und, und, und, und,
  und, und, und, und, und, und, und, und, und, und, und, und, und, und, und, und, und, und, und, und, und, und, und, und, und, und, und, und, und, und, und, und] [some [Sg.c (fI d.c16.c8.c4.2.1),
  Sg.c (fI d.c16.c8.c4.2.2.1), Sg.c (fI d.c16.c8.c4.2.2.2.1),
  Sg.c (fI d.c16.c16.1), Sg.c (fI d.c16.c16.2.1),
  Sg.c (fI d.c16.c16.2.2.1), Sg.c (CV.sl 4 (Off.x 0 0 9) (Sz.s d.c16.c16.2.2.2.1) 9 true),
  Sg.c (fI d.c16.c16.c4.1)], some [Sg.c (fI d.c16.c16.c4.2.1),
  Sg.c (CV.sl 5 (Off.x 0 d.c16.c16.c4.2.2.1 9) (Sz.s d.c16.c16.c4.2.2.2.1) 9 d.c16.c16.c8.1),
  Sg.c (fI d.c16.c16.c8.2.1), Sg.c (fI d.c16.c16.c8.2.2.1),
  Sg.c (fI d.c16.c16.c8.2.2.2.1), Sg.c (fI d.c16.c16.c8.c4.1),
  Sg.c (fI d.c16.c16.c8.c4.2.1), Sg.c (fI d.c16.c16.c8.c4.2.2.1)],
  some [Sg.a (Sz.s d.c16.c16.c8.c4.2.2.2.1) [kI d.c16.c16.c16.1,
  kI d.c16.c16.c16.2.1, kI d.c16.c16.c16.2.2.1,
  kI d.c16.c16.c16.2.2.2.1, kI d.c16.c16.c16.c4.1,
  kI d.c16.c16.c16.c4.2.1, kI d.c16.c16.c16.c4.2.2.1,
  kI d.c16.c16.c16.c4.2.2.2.1, kI d.c16.c16.c16.c8.1]],
  some [Sg.a (Sz.s d.c16.c16.c16.c8.2.1) [kI d.c16.c16.c16.c8.2.2.1,
  kI d.c16.c16.c16.c8.2.2.2.1, kI d.c16.c16.c16.c8.c4.1,
  kI d.c16.c16.c16.c8.c4.2.1, kI d.c16.c16.c16.c8.c4.2.2.1,
  kI d.c16.c16.c16.c8.c4.2.2.2.1, kI d.c16.c16.c16.c16.1,
  kI d.c16.c16.c16.c16.2.1, kI d.c16.c16.c16.c16.2.2.1]],
  some [Sg.a (Sz.s d.c16.c16.c16.c16.2.2.2.1) [kI d.c16.c16.c16.c16.c4.1,
  kI d.c16.c16.c16.c16.c4.2.1,
  kI d.c16.c16.c16.c16.c4.2.2.1,
  kI d.c16.c16.c16.c16.c4.2.2.2.1,
  kI d.c16.c16.c16.c16.c8.1,
  kI d.c16.c16.c16.c16.c8.2.1,
  kI d.c16.c16.c16.c16.c8.2.2.1,
  kI d.c16.c16.c16.c16.c8.2.2.2.1,
  kI d.c16.c16.c16.c16.c8.c4.1]],
  some [Sg.a (Sz.s d.c16.c16.c16.c16.c8.c4.2.1) [kI d.c16.c16.c16.c16.c8.c4.2.2.1,
  kI d.c16.c16.c16.c16.c8.c4.2.2.2.1,
  kI d.c16.c16.c16.c16.c16.1,
  kI d.c16.c16.c16.c16.c16.2.1,
  kI d.c16.c16.c16.c16.c16.2.2.1,
  kI d.c16.c16.c16.c16.c16.2.2.2.1,
  kI d.c16.c16.c16.c16.c16.c4.1,
  kI d.c16.c16.c16.c16.c16.c4.2.1,
  kI d.c16.c16.c16.c16.c16.c4.2.2]]] []))) := iter_loopX (emb := fun (d : Nat ×
  NI × NI × NI × NI × NI × NI × NI × NI × NI × NI × Int × Nat × Nat × Int × Nat × NI × NI × NI × NI × NI × NI × NI × NI × NI × (Nat →
  Int) × RGPt43) => St.mk [und, AV.r (RV.c (CV.fs d.1 10 [kI d.2.1, kI d.2.2.1, kI d.2.2.2.1, kI d.c4.1, kI d.c4.2.1, kI d.c4.2.2.1,
  kI d.c4.2.2.2.1, kI d.c8.1, kI d.c8.2.1, kI d.c8.2.2.1])), und, und, und, AV.r (RV.c (CV.ptr 0 (Off.k 0) 8)), und,
  AV.r (RV.c (CV.ptr 1 (Off.k 0) 8)), AV.r (RV.c (fI d.c8.2.2.2.1)), AV.r (RV.c (CV.sl 2 (Off.x 0 0 9) (Sz.s d.c8.c4.1) 9 true)), AV.r (RV.c (CV.sl 3 (Off.x 0 0 9) (Sz.s d.c8.c4.2.1) 9 true)),
  AV.r (RV.c (fI d.c8.c4.2.2.1)), und, und, und, und, und, und, und, und, und, und, und, und, und, und, und, und, und, und, und, AV.tup [], und, und, und, und, und,
  und, und, und, und, AV.tup [], und, und, und, und, und, und, und, und, AV.r (RV.c (CV.fs d.c8.c4.2.2.2.1 10 [kI d.c16.1, kI d.c16.2.1,
  kI d.c16.2.2.1, kI d.c16.2.2.2.1, kI d.c16.c4.1,
  kI d.c16.c4.2.1, kI d.c16.c4.2.2.1, kI d.c16.c4.2.2.2.1,
  kI d.c16.c8.1, kI d.c16.c8.2.1])), und, und, und, und, und, und, und,
  und, und, AV.r (RV.c (CV.f (FV.b d.c16.c8.2.2.1))), und, und, und, und, und, und, und, und, und, und, und, und, und, und, und, und, und, und, und,
  und, und, und, und, und, und, und, und, und, und, und, und, und, und, und, und, und, und, und, und, und, und, und, und, und, und, und, und, und, und, und, und, und, und, und, und, und, und,
  und, und, und, und, und, und, und, und, und, und, und, und, und, und, und, und, und, und, und, und, und, und, und, und, und, und, und, und, und, und, und, und, und, und, und, und, und, und,
  und, und, und, und, und, und, und, und, und, und, und, und, und, und, und, und, und, und, und, und, und, und, und, und, und, und, und, und, und, und, und, und, und, und, und, und, und, und,
  und, und, und, und, und, und, und, und, und, und, und, und, und, und, und, und, und, und] [some [Sg.c (fI d.c16.c8.2.2.2.1), Sg.c (fI d.c16.c8.c4.1),
  Sg.c (fI d.c16.c8.c4.2.1), Sg.c (fI d.c16.c8.c4.2.2.1),
  Sg.c (fI d.c16.c8.c4.2.2.2.1), Sg.c (fI d.c16.c16.1),
  Sg.c (CV.sl 4 (Off.x 0 0 9) (Sz.s d.c16.c16.2.1) 9 true), Sg.c (fI d.c16.c16.2.2.1)],
  some [Sg.c (fI d.c16.c16.2.2.2.1), Sg.c (CV.sl 5 (Off.x 0 d.c16.c16.c4.1 9) (Sz.s d.c16.c16.c4.2.1) 9 d.c16.c16.c4.2.2.1),
  Sg.c (fI d.c16.c16.c4.2.2.2.1), Sg.c (fI d.c16.c16.c8.1),
  Sg.c (fI d.c16.c16.c8.2.1), Sg.c (fI d.c16.c16.c8.2.2.1),
  Sg.c (fI d.c16.c16.c8.2.2.2.1), Sg.c (fI d.c16.c16.c8.c4.1)],
  some [Sg.a (Sz.s d.c16.c16.c8.c4.2.1) [kI d.c16.c16.c8.c4.2.2.1,
  kI d.c16.c16.c8.c4.2.2.2.1, kI d.c16.c16.c16.1,
  kI d.c16.c16.c16.2.1, kI d.c16.c16.c16.2.2.1,
  kI d.c16.c16.c16.2.2.2.1, kI d.c16.c16.c16.c4.1,
  kI d.c16.c16.c16.c4.2.1, kI d.c16.c16.c16.c4.2.2.1]],
  some [Sg.a (Sz.s d.c16.c16.c16.c4.2.2.2.1) [kI d.c16.c16.c16.c8.1,
  kI d.c16.c16.c16.c8.2.1, kI d.c16.c16.c16.c8.2.2.1,
  kI d.c16.c16.c16.c8.2.2.2.1, kI d.c16.c16.c16.c8.c4.1,
  kI d.c16.c16.c16.c8.c4.2.1, kI d.c16.c16.c16.c8.c4.2.2.1,
  kI d.c16.c16.c16.c8.c4.2.2.2.1, kI d.c16.c16.c16.c16.1]],
  some [Sg.a (Sz.s d.c16.c16.c16.c16.2.1) [kI d.c16.c16.c16.c16.2.2.1,
  kI d.c16.c16.c16.c16.2.2.2.1, kI d.c16.c16.c16.c16.c4.1,
  kI d.c16.c16.c16.c16.c4.2.1,
  kI d.c16.c16.c16.c16.c4.2.2.1,
  kI d.c16.c16.c16.c16.c4.2.2.2.1,
  kI d.c16.c16.c16.c16.c8.1,
  kI d.c16.c16.c16.c16.c8.2.1,
  kI d.c16.c16.c16.c16.c8.2.2.1]],
  some [Sg.a (Sz.s d.c16.c16.c16.c16.c8.2.2.2.1) [kI d.c16.c16.c16.c16.c8.c4.1,
  kI d.c16.c16.c16.c16.c8.c4.2.1,
  kI d.c16.c16.c16.c16.c8.c4.2.2.1,
  kI d.c16.c16.c16.c16.c8.c4.2.2.2.1,
  kI d.c16.c16.c16.c16.c16.1,
  kI d.c16.c16.c16.c16.c16.2.1,
  kI d.c16.c16.c16.c16.c16.2.2.1,
  kI d.c16.c16.c16.c16.c16.2.2.2.1,
  kI d.c16.c16.c16.c16.c16.c4]]] []) (step := fun d c x => S_astrolabelaw13_RingPlays_1 f_astrolabelaw13_awake f_ring_New f___ring_Buffer__Put f_astrolaberef13_Put f___ring_Buffer__Pop f_astrolaberef13_Pop f___ring_Buffer__Spoilt f_astrolaberef13_Spoilt f___ring_Buffer__Peek f___ring_Buffer__Len f___ring_Buffer__Horizon f__ring_Counts__Total d.1 d.2.1 d.2.2.1 d.2.2.2.1 d.c4.1 d.c4.2.1 d.c4.2.2.1 d.c4.2.2.2.1 d.c8.1 d.c8.2.1 d.c8.2.2.1 d.c8.2.2.2.1 d.c8.c4.1 d.c8.c4.2.1 d.c8.c4.2.2.1 d.c8.c4.2.2.2.1 d.c16.1 d.c16.2.1 d.c16.2.2.1 d.c16.2.2.2.1 d.c16.c4.1 d.c16.c4.2.1 d.c16.c4.2.2.1 d.c16.c4.2.2.2.1 d.c16.c8.1 d.c16.c8.2.1 d.c16.c8.2.2.1 d.c16.c8.2.2.2.1 d.c16.c8.c4.1 d.c16.c8.c4.2.1 d.c16.c8.c4.2.2.1 d.c16.c8.c4.2.2.2.1 d.c16.c16.1 d.c16.c16.2.1 d.c16.c16.2.2.1 d.c16.c16.2.2.2.1 d.c16.c16.c4.1 d.c16.c16.c4.2.1 d.c16.c16.c4.2.2.1 d.c16.c16.c4.2.2.2.1 d.c16.c16.c8.1 d.c16.c16.c8.2.1 d.c16.c16.c8.2.2.1 d.c16.c16.c8.2.2.2.1 d.c16.c16.c8.c4.1 d.c16.c16.c8.c4.2.1 d.c16.c16.c8.c4.2.2.1 d.c16.c16.c8.c4.2.2.2.1 d.c16.c16.c16.1 d.c16.c16.c16.2.1 d.c16.c16.c16.2.2.1 d.c16.c16.c16.2.2.2.1 d.c16.c16.c16.c4.1 d.c16.c16.c16.c4.2.1 d.c16.c16.c16.c4.2.2.1 d.c16.c16.c16.c4.2.2.2.1 d.c16.c16.c16.c8.1 d.c16.c16.c16.c8.2.1 d.c16.c16.c16.c8.2.2.1 d.c16.c16.c16.c8.2.2.2.1 d.c16.c16.c16.c8.c4.1 d.c16.c16.c16.c8.c4.2.1 d.c16.c16.c16.c8.c4.2.2.1 d.c16.c16.c16.c8.c4.2.2.2.1 d.c16.c16.c16.c16.1 d.c16.c16.c16.c16.2.1 d.c16.c16.c16.c16.2.2.1 d.c16.c16.c16.c16.2.2.2.1 d.c16.c16.c16.c16.c4.1 d.c16.c16.c16.c16.c4.2.1 d.c16.c16.c16.c16.c4.2.2.1 d.c16.c16.c16.c16.c4.2.2.2.1 d.c16.c16.c16.c16.c8.1 d.c16.c16.c16.c16.c8.2.1 d.c16.c16.c16.c16.c8.2.2.1 d.c16.c16.c16.c16.c8.2.2.2.1 d.c16.c16.c16.c16.c8.c4.1 d.c16.c16.c16.c16.c8.c4.2.1 d.c16.c16.c16.c16.c8.c4.2.2.1 d.c16.c16.c16.c16.c8.c4.2.2.2.1 d.c16.c16.c16.c16.c16.1 d.c16.c16.c16.c16.c16.2.1 d.c16.c16.c16.c16.c16.2.2.1 d.c16.c16.c16.c16.c16.2.2.2.1 d.c16.c16.c16.c16.c16.c4 c x) (kx := (Sum.elim (fun d => K (AX.ret) (St.mk [und,
  und, und, und, AV.r (RV.c (CV.f (FV.b false))), und, und, und, und, und, und, und, und, und, und, und, und, und, und, und, und, und, und, und, und, und, und, und, und, und, und, und, und, und, und, und,
  und, und, und, und, und, und, und, und, und, und, und, und, und, und, und, und, und, und, und, und, und, und, und, und, und, und, und, und, und, und, und, und, und, und, und, und, und, und,
  und, und, und, und, und, und, und, und, und, und, und, und, und, und, und, und, und, und, und, und, und, und, und, und, und, und, und, und, und, und, und, und, und, und, und, und, und, und,
  und, und, und, und, und, und, und, und, und, und, und, und, und, und, und, und, und, und, und, und, und, und, und, und, und, und, und, und, und, und, und, und, und, und, und, und, und, und,
  und, und, und, und, und, und, und, und, und, und, und, und, und, und, und, und, und, und, und, und, und, und, und, und, und, und, und, und, und, und, und, und, und, und, und, und, und, und,
  und, und, und, und, und, und, und, und, und, und, und, und, und, und, und, und, und, und, und, und, und, und, und, und] [] [])) (fun d => K (AX.ex 3) (St.mk [und, AV.r (RV.c (CV.fs d.1 10 [kI d.2.1, kI d.2.2.1,
  kI d.2.2.2.1, kI d.c4.1, kI d.c4.2.1, kI d.c4.2.2.1, kI d.c4.2.2.2.1, kI d.c8.1, kI d.c8.2.1,
  kI d.c8.2.2.1])), und, und, und, AV.r (RV.c (CV.ptr 0 (Off.k 0) 8)), und, AV.r (RV.c (CV.ptr 1 (Off.k 0) 8)), AV.r (RV.c (fI d.c8.2.2.2.1)), AV.r (RV.c (CV.sl 2 (Off.x 0 0 9) (Sz.s d.c8.c4.1) 9 true)),
  AV.r (RV.c (CV.sl 3 (Off.x 0 0 9) (Sz.s d.c8.c4.2.1) 9 true)), AV.r (RV.c (fI d.c8.c4.2.2.1)), und, und, und, und, und, und, und, und, und, und, und, und,
  und, und, und, und, und, und, und, AV.tup [], und, und, und, und, und, und, und, und, und, AV.tup [], und, und, und, und, und, und, und, und, AV.r (RV.c (CV.fs d.c8.c4.2.2.2.1 10 [kI d.c16.1,
  kI d.c16.2.1, kI d.c16.2.2.1, kI d.c16.2.2.2.1, kI d.c16.c4.1,
  kI d.c16.c4.2.1, kI d.c16.c4.2.2.1, kI d.c16.c4.2.2.2.1,
  kI d.c16.c8.1, kI d.c16.c8.2.1])), und, und, und, und, und, und, und,
  und, und, AV.r (RV.c (CV.f (FV.b d.c16.c8.2.2.1))), und, und, und, und, und, und, und, und, und, und, und, und, und, und, und, und, und, und, und,
  und, und, und, und, und, und, und, und, und, und, und, und, und, und, und, und, und, und, und, AV.r (RV.c (fI d.c8.c4.2.2.1)), AV.r (RV.c (CV.sl 2 (Off.x 0 0 9) (Sz.s d.c8.c4.1) 9 true)),
  AV.r (RV.c (fI d.c16.c8.2.2.2.1)), AV.r (RV.c (CV.f (FV.b d.c16.c8.c4.1))), und,
  und, und, und, und, und, und, und, und, und, und, und, und, und, und, und, und, und, und, und, und, und, und, und, und, und, und, und, und, und, und, und, und, und, und, und, und, und, und,
  und, und, und, und, und, und, und, und, und, und, und, und, und, und, und, und, und, und, und, und, und, und, und, und, und, und, und, und, und, und, und, und, und, und, und, und, und, und,
  und, und, und, und, und, und, und, und, und, und, und, und, und, und, und, und, und, und, und, und, und, und, und, und, und, und, und, und, und, und, und, und] [some [Sg.c (fI d.c16.c8.c4.2.1),
  Sg.c (fI d.c16.c8.c4.2.2.1), Sg.c (fI d.c16.c8.c4.2.2.2.1),
  Sg.c (fI d.c16.c16.1), Sg.c (fI d.c16.c16.2.1),
  Sg.c (fI d.c16.c16.2.2.1), Sg.c (CV.sl 4 (Off.x 0 0 9) (Sz.s d.c16.c16.2.2.2.1) 9 true),
  Sg.c (fI d.c16.c16.c4.1)], some [Sg.c (fI d.c16.c16.c4.2.1),
  Sg.c (CV.sl 5 (Off.x 0 d.c16.c16.c4.2.2.1 9) (Sz.s d.c16.c16.c4.2.2.2.1) 9 d.c16.c16.c8.1),
  Sg.c (fI d.c16.c16.c8.2.1), Sg.c (fI d.c16.c16.c8.2.2.1),
  Sg.c (fI d.c16.c16.c8.2.2.2.1), Sg.c (fI d.c16.c16.c8.c4.1),
  Sg.c (fI d.c16.c16.c8.c4.2.1), Sg.c (fI d.c16.c16.c8.c4.2.2.1)],
  some [Sg.a (Sz.s d.c16.c16.c8.c4.2.2.2.1) [kI d.c16.c16.c16.1,
  kI d.c16.c16.c16.2.1, kI d.c16.c16.c16.2.2.1,
  kI d.c16.c16.c16.2.2.2.1, kI d.c16.c16.c16.c4.1,
  kI d.c16.c16.c16.c4.2.1, kI d.c16.c16.c16.c4.2.2.1,
  kI d.c16.c16.c16.c4.2.2.2.1, kI d.c16.c16.c16.c8.1]],
  some [Sg.a (Sz.s d.c16.c16.c16.c8.2.1) [kI d.c16.c16.c16.c8.2.2.1,
  kI d.c16.c16.c16.c8.2.2.2.1, kI d.c16.c16.c16.c8.c4.1,
  kI d.c16.c16.c16.c8.c4.2.1, kI d.c16.c16.c16.c8.c4.2.2.1,
  kI d.c16.c16.c16.c8.c4.2.2.2.1, kI d.c16.c16.c16.c16.1,
  kI d.c16.c16.c16.c16.2.1, kI d.c16.c16.c16.c16.2.2.1]],
  some [Sg.a (Sz.s d.c16.c16.c16.c16.2.2.2.1) [kI d.c16.c16.c16.c16.c4.1,
  kI d.c16.c16.c16.c16.c4.2.1,
  kI d.c16.c16.c16.c16.c4.2.2.1,
  kI d.c16.c16.c16.c16.c4.2.2.2.1,
  kI d.c16.c16.c16.c16.c8.1,
  kI d.c16.c16.c16.c16.c8.2.1,
  kI d.c16.c16.c16.c16.c8.2.2.1,
  kI d.c16.c16.c16.c16.c8.2.2.2.1,
  kI d.c16.c16.c16.c16.c8.c4.1]],
  some [Sg.a (Sz.s d.c16.c16.c16.c16.c8.c4.2.1) [kI d.c16.c16.c16.c16.c8.c4.2.2.1,
  kI d.c16.c16.c16.c16.c8.c4.2.2.2.1,
  kI d.c16.c16.c16.c16.c16.1,
  kI d.c16.c16.c16.c16.c16.2.1,
  kI d.c16.c16.c16.c16.c16.2.2.1,
  kI d.c16.c16.c16.c16.c16.2.2.2.1,
  kI d.c16.c16.c16.c16.c16.c4.1,
  kI d.c16.c16.c16.c16.c16.c4.2.1,
  kI d.c16.c16.c16.c16.c16.c4.2.2]]] [])))) (fun d c => ds_astrolabelaw13_RingPlays_1 f_astrolabelaw13_awake f_ring_New f___ring_Buffer__Put f_astrolaberef13_Put f___ring_Buffer__Pop f_astrolaberef13_Pop f___ring_Buffer__Spoilt f_astrolaberef13_Spoilt f___ring_Buffer__Peek f___ring_Buffer__Len f___ring_Buffer__Horizon f__ring_Counts__Total (@L_astrolabelaw13_RingPlays_1) (@L_astrolabelaw13_RingPlays_2) (@L_astrolabelaw13_RingPlays_0) d.1 d.2.1 d.2.2.1 d.2.2.2.1 d.c4.1 d.c4.2.1 d.c4.2.2.1 d.c4.2.2.2.1 d.c8.1 d.c8.2.1 d.c8.2.2.1 d.c8.2.2.2.1 d.c8.c4.1 d.c8.c4.2.1 d.c8.c4.2.2.1 d.c8.c4.2.2.2.1 d.c16.1 d.c16.2.1 d.c16.2.2.1 d.c16.2.2.2.1 d.c16.c4.1 d.c16.c4.2.1 d.c16.c4.2.2.1 d.c16.c4.2.2.2.1 d.c16.c8.1 d.c16.c8.2.1 d.c16.c8.2.2.1 d.c16.c8.2.2.2.1 d.c16.c8.c4.1 d.c16.c8.c4.2.1 d.c16.c8.c4.2.2.1 d.c16.c8.c4.2.2.2.1 d.c16.c16.1 d.c16.c16.2.1 d.c16.c16.2.2.1 d.c16.c16.2.2.2.1 d.c16.c16.c4.1 d.c16.c16.c4.2.1 d.c16.c16.c4.2.2.1 d.c16.c16.c4.2.2.2.1 d.c16.c16.c8.1 d.c16.c16.c8.2.1 d.c16.c16.c8.2.2.1 d.c16.c16.c8.2.2.2.1 d.c16.c16.c8.c4.1 d.c16.c16.c8.c4.2.1 d.c16.c16.c8.c4.2.2.1 d.c16.c16.c8.c4.2.2.2.1 d.c16.c16.c16.1 d.c16.c16.c16.2.1 d.c16.c16.c16.2.2.1 d.c16.c16.c16.2.2.2.1 d.c16.c16.c16.c4.1 d.c16.c16.c16.c4.2.1 d.c16.c16.c16.c4.2.2.1 d.c16.c16.c16.c4.2.2.2.1 d.c16.c16.c16.c8.1 d.c16.c16.c16.c8.2.1 d.c16.c16.c16.c8.2.2.1 d.c16.c16.c16.c8.2.2.2.1 d.c16.c16.c16.c8.c4.1 d.c16.c16.c16.c8.c4.2.1 d.c16.c16.c16.c8.c4.2.2.1 d.c16.c16.c16.c8.c4.2.2.2.1 d.c16.c16.c16.c16.1 d.c16.c16.c16.c16.2.1 d.c16.c16.c16.c16.2.2.1 d.c16.c16.c16.c16.2.2.2.1 d.c16.c16.c16.c16.c4.1 d.c16.c16.c16.c16.c4.2.1 d.c16.c16.c16.c16.c4.2.2.1 d.c16.c16.c16.c16.c4.2.2.2.1 d.c16.c16.c16.c16.c8.1 d.c16.c16.c16.c16.c8.2.1 d.c16.c16.c16.c16.c8.2.2.1 d.c16.c16.c16.c16.c8.2.2.2.1 d.c16.c16.c16.c16.c8.c4.1 d.c16.c16.c16.c16.c8.c4.2.1 d.c16.c16.c16.c16.c8.c4.2.2.1 d.c16.c16.c16.c16.c8.c4.2.2.2.1 d.c16.c16.c16.c16.c16.1 d.c16.c16.c16.c16.c16.2.1 d.c16.c16.c16.c16.c16.2.2.1 d.c16.c16.c16.c16.c16.2.2.2.1 d.c16.c16.c16.c16.c16.c4 c K) 200 (x0,
  x1, x2, x3, x4, x5, x6, x7, x8, x9, x10, x11, x12, x13, x14, x15, x16, x17, x18, x19, x20, x21, x22, x23, x24, x25, x26, x27, x28, x29, x30, x31, x32, x33, x34, x35, x36, x37, x38, x39, x40, x41, x42, x43, x44, x45, x46, x47, x48, x49, x50, x51, x52, x53, x54, x55, x56, x57, x58, x59, x60, x61, x62,
  x63, x64, x65, x66, x67, x68, x69, x70, x71, x72, x73, x74, x75, x76, x77, x78, x79, x80, x81, x82, x83, x84)
end Go.Proofs.Ythbnojedlbeglaa
