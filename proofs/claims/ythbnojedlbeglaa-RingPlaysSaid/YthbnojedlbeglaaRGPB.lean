/-
  RGP, the other half.
-/
import Derived.Test.YthbnojedlbeglaaRGP
set_option maxRecDepth 100000
set_option maxHeartbeats 4000000
set_option linter.unusedVariables false
namespace Go.Proofs.Ythbnojedlbeglaa
open Go.Ab
theorem so_astrolabelaw13_RingPlays_1 [Amb] : ∀ kk, SumOK Try.prog (envOf [(15, F_astrolabelaw13_awake f_astrolabelaw13_awake), (16, F_ring_New f_ring_New), (17, F___ring_Buffer__Put f___ring_Buffer__Put), (21, F_astrolaberef13_Put f_astrolaberef13_Put), (22, F___ring_Buffer__Pop f___ring_Buffer__Pop),
  (23, F_astrolaberef13_Pop f_astrolaberef13_Pop), (24, F___ring_Buffer__Spoilt f___ring_Buffer__Spoilt), (25, F_astrolaberef13_Spoilt f_astrolaberef13_Spoilt), (18, F___ring_Buffer__Peek f___ring_Buffer__Peek), (26, F___ring_Buffer__Len f___ring_Buffer__Len), (19, F___ring_Buffer__Horizon f___ring_Buffer__Horizon),
  (27, F__ring_Counts__Total f__ring_Counts__Total), (20, F_astrolaberef13_New f_astrolaberef13_New)]) ⟨[⟨10, [0, 2, 3, 4, 6, 9, 10, 11, 12, 13, 14, 15, 16, 17, 18, 19, 20, 21, 22, 23, 24, 25, 26, 27, 28, 29, 30, 32, 33, 34, 35, 36, 37, 38, 39, 40, 42, 43, 44, 45, 46, 47, 48, 49, 50, 51, 52,
  53, 54, 55, 56, 57, 58, 59, 60, 61, 63, 64, 65, 66, 67, 68, 69, 70, 71, 72, 74, 75, 76, 77, 78, 79, 80, 81, 82, 83, 84, 85, 86, 87, 88, 89, 90, 91, 92, 93, 94, 95, 96, 97, 98, 99, 100, 101, 102, 103, 104, 105, 106, 107, 108, 109, 110, 111, 112, 113, 114, 115, 116, 117, 118, 119, 120, 121, 122, 123, 124,
  125, 126, 127, 128, 129, 130, 131, 132, 133, 134, 135, 136, 137, 138, 139, 140, 141, 142, 143, 144, 145, 146, 147, 148, 149, 150, 151, 152, 153, 154, 163, 164, 172, 173, 182, 183, 195, 196, 211, 62, 73, 155, 156, 157, 158, 159, 160, 161, 162, 165, 166, 167, 168, 169, 170, 171, 174, 175, 176, 177, 178,
  179, 180, 181, 184, 185, 186, 187, 188, 189, 190, 191, 192, 193, 194, 197, 198, 199, 200, 201, 202, 203, 204, 205, 206, 207, 208, 209, 210], [(0, [])]⟩, ⟨24, [0, 2, 3, 4, 6, 12, 13, 14, 15, 16, 17, 18, 19, 20, 21, 22, 23, 24, 25, 26, 27, 28, 29, 30, 32, 33, 34, 35, 36, 37, 38, 39, 40, 42, 43, 44, 45,
  46, 47, 48, 49, 51, 52, 53, 54, 55, 56, 57, 58, 59, 61, 63, 64, 65, 66, 67, 68, 69, 70, 71, 72, 74, 75, 76, 77, 78, 79, 80, 81, 82, 83, 84, 85, 86, 87, 88, 89, 90, 91, 92, 93, 94, 95, 96, 97, 98, 99, 100, 101, 102, 103, 104, 105, 106, 107, 108, 109, 110, 111, 112, 113, 114, 115, 116, 117, 118, 119, 120,
  121, 122, 123, 124, 125, 126, 127, 128, 129, 130, 131, 132, 133, 134, 135, 136, 137, 138, 139, 140, 141, 142, 143, 144, 145, 146, 147, 148, 149, 150, 151, 152, 153, 154, 163, 164, 172, 173, 182, 183, 195, 196, 211], [(0, [])]⟩], [⟨24, 0, @R_astrolabelaw13_RingPlays_1 (@L_astrolabelaw13_RingPlays_1)⟩,
  ⟨10, 0, @R_astrolabelaw13_RingPlays_0 (@L_astrolabelaw13_RingPlays_0)⟩], [], [⟨⟨29, [0, 2, 3, 4, 6, 9, 10, 11, 12, 13, 14, 15, 16, 17, 18, 19, 20, 21, 22, 23, 24, 25, 26, 27, 28, 29, 30, 32, 33, 34, 35, 36, 37, 38, 39, 40, 42, 43, 44, 45, 46, 47, 48, 49, 51, 52, 53, 54, 55, 56, 57, 58, 59, 61, 63, 64,
  65, 66, 67, 68, 69, 70, 71, 72, 74, 75, 76, 77, 78, 79, 80, 81, 82, 83, 84, 85, 86, 87, 88, 89, 90, 91, 92, 93, 94, 95, 96, 97, 98, 99, 100, 101, 102, 103, 104, 105, 106, 107, 108, 109, 110, 111, 112, 113, 114, 115, 116, 117, 118, 119, 120, 121, 122, 123, 124, 125, 126, 127, 128, 129, 130, 131, 132,
  133, 134, 135, 136, 137, 138, 139, 140, 141, 142, 143, 144, 145, 146, 147, 148, 149, 150, 151, 152, 153, 154, 163, 164, 172, 173, 182, 183, 195, 196, 211, 62, 73], [(0, [])]⟩, ⟨29, 0, @R_astrolabelaw13_RingPlays_2 (@L_astrolabelaw13_RingPlays_2)⟩⟩], (some ⟨0, [0, 1, 2, 3, 5, 6, 7, 8, 9, 10, 11, 12, 13,
  14, 15, 16, 17, 18, 19, 20, 21, 22, 23, 24, 25, 26, 27, 28, 29, 30, 31, 32, 33, 34, 35, 36, 37, 38, 39, 40, 41, 42, 43, 44, 45, 46, 47, 48, 49, 50, 51, 52, 53, 54, 55, 56, 57, 58, 59, 60, 61, 62, 63, 64, 65, 66, 67, 68, 69, 70, 71, 72, 73, 74, 75, 76, 77, 78, 79, 80, 81, 82, 83, 84, 85, 86, 87, 88, 89,
  90, 91, 92, 93, 94, 95, 96, 97, 98, 99, 100, 101, 102, 103, 104, 105, 106, 107, 108, 109, 110, 111, 112, 113, 114, 115, 116, 117, 118, 119, 120, 121, 122, 123, 124, 125, 126, 127, 128, 129, 130, 131, 132, 133, 134, 135, 136, 137, 138, 139, 140, 141, 142, 143, 144, 145, 146, 147, 148, 149, 150, 151, 152,
  153, 154, 155, 156, 157, 158, 159, 160, 161, 162, 163, 164, 165, 166, 167, 168, 169, 170, 171, 172, 173, 174, 175, 176, 177, 178, 179, 180, 181, 182, 183, 184, 185, 186, 187, 188, 189, 190, 191, 192, 193, 194, 195, 196, 197, 198, 199, 200, 201, 202, 203, 204, 205, 206, 207, 208, 209, 210, 211], []⟩)⟩ (tmpsOf Try.prog 4) kk 200 (loopIn Try.prog 4 24) := SumOK.of (id := 24) (k0 := 0) (run := @R_astrolabelaw13_RingPlays_1 (@L_astrolabelaw13_RingPlays_1)) (by kernel_rfl) fun s K r hr => by
    unfold R_astrolabelaw13_RingPlays_1 at hr
    obtain ⟨b, hb, hr1⟩ := Option.bind_eq_some_iff.1 hr
    have e := ((Q_astrolabelaw13_RingPlays_1).ok s b hb).trans (q_astrolabelaw13_RingPlays_1 b)
    subst e
    exact ⟨200, (it_astrolabelaw13_RingPlays_1 b.1.2.1.1 b.1.2.1.2.2.1 b.1.2.1.2.2.2.1 b.1.2.1.c4.1 b.1.2.1.c4.2.1 b.1.2.1.c4.2.2.1 b.1.2.1.c4.2.2.2.1 b.1.2.1.c8.1 b.1.2.1.c8.2.1 b.1.2.1.c8.2.2.1 b.1.2.1.c8.2.2.2.1 b.1.c8.1 b.1.c8.2.1.2.2.1 b.1.c8.2.2.1.2.2.1 b.1.c8.2.2.2.1 b.1.c16.c16.c16.2.2.1.1 b.1.c16.c16.c16.2.2.1.2.2.1 b.1.c16.c16.c16.2.2.1.2.2.2.1 b.1.c16.c16.c16.2.2.1.c4.1 b.1.c16.c16.c16.2.2.1.c4.2.1 b.1.c16.c16.c16.2.2.1.c4.2.2.1 b.1.c16.c16.c16.2.2.1.c4.2.2.2.1 b.1.c16.c16.c16.2.2.1.c8.1 b.1.c16.c16.c16.2.2.1.c8.2.1 b.1.c16.c16.c16.2.2.1.c8.2.2.1 b.1.c16.c16.c16.2.2.1.c8.2.2.2.1 b.1.c16.c16.c16.c8.c4.1 b.2.1.1.1 b.2.1.1.2.1 b.2.1.1.2.2.1 b.2.1.1.2.2.2.1 b.2.1.1.c4.1 b.2.1.1.c4.2.1 b.2.1.1.c4.2.2.1.2.2.1 b.2.1.1.c4.2.2.2.1 b.2.1.2.1.1 b.2.1.2.1.2.1.2.1.2.1 b.2.1.2.1.2.1.2.2.1 b.2.1.2.1.2.1.c4 b.2.1.2.1.2.2.1 b.2.1.2.1.2.2.2.1 b.2.1.2.1.c4.1 b.2.1.2.1.c4.2.1 b.2.1.2.1.c4.2.2.1 b.2.1.2.1.c4.2.2.2.1 b.2.1.2.2.1.1.1 b.2.1.2.2.1.1.2.1 b.2.1.2.2.1.1.2.2.1 b.2.1.2.2.1.1.2.2.2.1 b.2.1.2.2.1.1.c4.1 b.2.1.2.2.1.1.c4.2.1 b.2.1.2.2.1.1.c4.2.2.1 b.2.1.2.2.1.1.c4.2.2.2.1 b.2.1.2.2.1.1.c8.1 b.2.1.2.2.1.1.c8.2.1 b.2.1.2.2.2.1.1.1 b.2.1.2.2.2.1.1.2.1 b.2.1.2.2.2.1.1.2.2.1 b.2.1.2.2.2.1.1.2.2.2.1 b.2.1.2.2.2.1.1.c4.1 b.2.1.2.2.2.1.1.c4.2.1 b.2.1.2.2.2.1.1.c4.2.2.1 b.2.1.2.2.2.1.1.c4.2.2.2.1 b.2.1.2.2.2.1.1.c8.1 b.2.1.2.2.2.1.1.c8.2.1 b.2.1.c4.1.1.1 b.2.1.c4.1.1.2.1 b.2.1.c4.1.1.2.2.1 b.2.1.c4.1.1.2.2.2.1 b.2.1.c4.1.1.c4.1 b.2.1.c4.1.1.c4.2.1 b.2.1.c4.1.1.c4.2.2.1 b.2.1.c4.1.1.c4.2.2.2.1 b.2.1.c4.1.1.c8.1 b.2.1.c4.1.1.c8.2.1 b.2.1.c4.2.1.1.1 b.2.1.c4.2.1.1.2.1 b.2.1.c4.2.1.1.2.2.1 b.2.1.c4.2.1.1.2.2.2.1 b.2.1.c4.2.1.1.c4.1 b.2.1.c4.2.1.1.c4.2.1 b.2.1.c4.2.1.1.c4.2.2.1 b.2.1.c4.2.1.1.c4.2.2.2.1 b.2.1.c4.2.1.1.c8.1 b.2.1.c4.2.1.1.c8.2.1 K).trans hr1⟩
theorem ds_astrolabelaw13_RingPlays_2 {ρ : Type} (g_astrolabelaw13_awake : Option Bool) (g_ring_New : Int → Option (Unit ⊕ Int × NI)) (g___ring_Buffer__Put : RGPg19) (g_astrolaberef13_Put : RGPg9) (g___ring_Buffer__Pop : RGPg10) (g_astrolaberef13_Pop : RGPg11) (g___ring_Buffer__Spoilt : RGPg12) (g_astrolaberef13_Spoilt : RGPg13) (g___ring_Buffer__Peek : RGPg14) (g___ring_Buffer__Len : RGPg15) (g___ring_Buffer__Horizon : RGPg15) (g__ring_Counts__Total : Int → Int → Int → Int → Int → Option Int) (l_1 : ∀ {ρ : Type}, (Nat × NI × NI × (Nat →
  Int) × RGPt28) →
  ((Unit ⊕ Nat × NI × NI × NI × NI × NI × NI × NI × NI × NI × NI × Int × Nat × Nat × Int × Nat × NI × NI × NI × NI × NI × NI × NI × NI × (Nat →
  Int) × RGPt29) → Option ρ) → Option ρ) (l_2 : ∀ {ρ : Type}, (Nat × NI × NI × NI × NI × NI × NI × NI × NI × NI × NI × Int × Nat × NI × NI ×
  NI × NI × NI × NI × NI × NI × NI × NI × Bool × Int × Int × Int × Int × Int × Int × Nat × Bool × Int × Int × Nat × Nat × Bool × Int × Int × Int × Int × Int × Int × Nat × NI × NI × NI × NI × (Nat →
  Int) × RGPt21) → ((Unit ⊕ Nat × NI × NI × NI × NI × NI × NI × (Nat →
  Int) × NI × NI × NI × Int × Bool × Nat × NI × NI × NI × NI × NI × NI × NI × NI × NI × NI × Bool × Int × Int × Int × Int × Int × Int × Int × Int × Int × Int × Int × Int × Int × Int × Int ×
  Int × Int × Int × Int × Bool × Int × Nat × Nat × Bool × Int × Bool × Int × Int × Bool × Bool × Bool × Int × Int × Int × Int × Int × Int × Int × Int × Int × Bool × Int × Int × Int × Bool × Int × Nat × Bool × Int × Int × Nat × NI × NI × NI × NI × NI × (Nat →
  Int) × RGPt30 ⊕ Nat × NI × NI × NI × NI × NI × NI × NI × NI × (Nat →
  Int) × NI × Int × Bool × Nat × NI × NI × NI × NI × NI × NI × NI × NI × NI × NI × Bool × Int × Int × Int × Int × Int × Int × Int × Int × Int × Int × Int × Int × Int × Int × Int × Int × Int × Int × Int ×
  Bool × Int × Nat × Nat × Bool × Int × Bool × Int × Int × Bool × Bool × Bool × Int × Int × Int × Bool × Int × Nat × Bool × Int × Int × Nat × NI × NI × NI × NI × NI × NI × NI × NI × NI × Nat × NI × NI × (Nat →
  Int) × NI × NI × NI × NI × NI × NI) → Option ρ) → Option ρ) (l_0 : ∀ {ρ : Type}, (RGPt37) → ((Unit ⊕ RGPt42) →
  Option ρ) → Option ρ) (x0 : Nat) (x1 : Nat → Int) (x2 : Nat → Int) (x3 : Nat → Int) (x4 : Nat → Int) (x5 : Nat → Int) (x6 : Nat → Int) (x7 : Nat → Int) (x8 : Nat → Int) (x9 : Nat → Int) (x10 : Nat → Int) (x11 : Int) (x12 : Nat) (x13 : Nat → Int) (x14 : Nat → Int) (x15 : Nat → Int) (x16 : Nat → Int) (x17 : Nat →
  Int) (x18 : Nat → Int) (x19 : Nat → Int) (x20 : Nat → Int) (x21 : Nat → Int) (x22 : Nat → Int) (x23 : Bool) (x24 : Int) (x25 : Int) (x26 : Int) (x27 : Int) (x28 : Int) (x29 : Int) (x30 : Nat) (x31 : Bool) (x32 : Int) (x33 : Int) (x34 : Nat) (x35 : Nat) (x36 : Bool) (x37 : Int) (x38 : Int) (x39 : Int) (x40 : Int) (x41 : Int) (x42 : Int) (x43 : Nat) (x44 : Nat →
  Int) (x45 : Nat → Int) (x46 : Nat → Int) (x47 : Nat → Int) (x48 : Nat → Int) (x49 : Nat → Int) (x50 : Nat → Int) (x51 : Nat → Int) (x52 : Nat → Int) (x53 : Nat) (x54 : Nat → Int) (x55 : Nat → Int) (x56 : Nat → Int) (x57 : Nat → Int) (x58 : Nat → Int) (x59 : Nat → Int) (x60 : Nat → Int) (x61 : Nat → Int) (x62 : Nat →
  Int) (K : AX → St → Option ρ) : runC Try.prog (envOf [(15, F_astrolabelaw13_awake g_astrolabelaw13_awake), (16, F_ring_New g_ring_New), (17, F___ring_Buffer__Put g___ring_Buffer__Put), (21, F_astrolaberef13_Put g_astrolaberef13_Put), (22, F___ring_Buffer__Pop g___ring_Buffer__Pop),
  (23, F_astrolaberef13_Pop g_astrolaberef13_Pop), (24, F___ring_Buffer__Spoilt g___ring_Buffer__Spoilt), (25, F_astrolaberef13_Spoilt g_astrolaberef13_Spoilt), (18, F___ring_Buffer__Peek g___ring_Buffer__Peek), (26, F___ring_Buffer__Len g___ring_Buffer__Len), (19, F___ring_Buffer__Horizon g___ring_Buffer__Horizon),
  (27, F__ring_Counts__Total g__ring_Counts__Total), (20, F_astrolaberef13_New f_astrolaberef13_New)]) ⟨[⟨10, [0, 2, 3, 4, 6, 9, 10, 11, 12, 13, 14, 15, 16, 17, 18, 19, 20, 21, 22, 23, 24, 25, 26, 27, 28, 29, 30, 32, 33, 34, 35, 36, 37, 38, 39, 40, 42, 43, 44, 45, 46, 47, 48, 49, 50, 51, 52,
  53, 54, 55, 56, 57, 58, 59, 60, 61, 63, 64, 65, 66, 67, 68, 69, 70, 71, 72, 74, 75, 76, 77, 78, 79, 80, 81, 82, 83, 84, 85, 86, 87, 88, 89, 90, 91, 92, 93, 94, 95, 96, 97, 98, 99, 100, 101, 102, 103, 104, 105, 106, 107, 108, 109, 110, 111, 112, 113, 114, 115, 116, 117, 118, 119, 120, 121, 122, 123, 124,
  125, 126, 127, 128, 129, 130, 131, 132, 133, 134, 135, 136, 137, 138, 139, 140, 141, 142, 143, 144, 145, 146, 147, 148, 149, 150, 151, 152, 153, 154, 163, 164, 172, 173, 182, 183, 195, 196, 211, 62, 73, 155, 156, 157, 158, 159, 160, 161, 162, 165, 166, 167, 168, 169, 170, 171, 174, 175, 176, 177, 178,
  179, 180, 181, 184, 185, 186, 187, 188, 189, 190, 191, 192, 193, 194, 197, 198, 199, 200, 201, 202, 203, 204, 205, 206, 207, 208, 209, 210], [(0, [])]⟩, ⟨24, [0, 2, 3, 4, 6, 12, 13, 14, 15, 16, 17, 18, 19, 20, 21, 22, 23, 24, 25, 26, 27, 28, 29, 30, 32, 33, 34, 35, 36, 37, 38, 39, 40, 42, 43, 44, 45,
  46, 47, 48, 49, 51, 52, 53, 54, 55, 56, 57, 58, 59, 61, 63, 64, 65, 66, 67, 68, 69, 70, 71, 72, 74, 75, 76, 77, 78, 79, 80, 81, 82, 83, 84, 85, 86, 87, 88, 89, 90, 91, 92, 93, 94, 95, 96, 97, 98, 99, 100, 101, 102, 103, 104, 105, 106, 107, 108, 109, 110, 111, 112, 113, 114, 115, 116, 117, 118, 119, 120,
  121, 122, 123, 124, 125, 126, 127, 128, 129, 130, 131, 132, 133, 134, 135, 136, 137, 138, 139, 140, 141, 142, 143, 144, 145, 146, 147, 148, 149, 150, 151, 152, 153, 154, 163, 164, 172, 173, 182, 183, 195, 196, 211], [(0, [])]⟩], [⟨24, 0, @R_astrolabelaw13_RingPlays_1 (@l_1)⟩, ⟨10, 0, @R_astrolabelaw13_RingPlays_0 (@l_0)⟩],
  [], [⟨⟨29, [0, 2, 3, 4, 6, 9, 10, 11, 12, 13, 14, 15, 16, 17, 18, 19, 20, 21, 22, 23, 24, 25, 26, 27, 28, 29, 30, 32, 33, 34, 35, 36, 37, 38, 39, 40, 42, 43, 44, 45, 46, 47, 48, 49, 51, 52, 53, 54, 55, 56, 57, 58, 59, 61, 63, 64, 65, 66, 67, 68, 69, 70, 71, 72, 74, 75, 76, 77, 78, 79, 80, 81, 82, 83,
  84, 85, 86, 87, 88, 89, 90, 91, 92, 93, 94, 95, 96, 97, 98, 99, 100, 101, 102, 103, 104, 105, 106, 107, 108, 109, 110, 111, 112, 113, 114, 115, 116, 117, 118, 119, 120, 121, 122, 123, 124, 125, 126, 127, 128, 129, 130, 131, 132, 133, 134, 135, 136, 137, 138, 139, 140, 141, 142, 143, 144, 145, 146, 147,
  148, 149, 150, 151, 152, 153, 154, 163, 164, 172, 173, 182, 183, 195, 196, 211, 62, 73], [(0, [])]⟩, ⟨29, 0, @R_astrolabelaw13_RingPlays_2 (@l_2)⟩⟩], (some ⟨0, [0, 1, 2, 3, 5, 6, 7, 8, 9, 10, 11, 12, 13, 14, 15, 16, 17, 18, 19, 20, 21, 22, 23, 24, 25, 26, 27, 28, 29, 30, 31, 32, 33, 34, 35, 36, 37, 38,
  39, 40, 41, 42, 43, 44, 45, 46, 47, 48, 49, 50, 51, 52, 53, 54, 55, 56, 57, 58, 59, 60, 61, 62, 63, 64, 65, 66, 67, 68, 69, 70, 71, 72, 73, 74, 75, 76, 77, 78, 79, 80, 81, 82, 83, 84, 85, 86, 87, 88, 89, 90, 91, 92, 93, 94, 95, 96, 97, 98, 99, 100, 101, 102, 103, 104, 105, 106, 107, 108, 109, 110, 111,
  112, 113, 114, 115, 116, 117, 118, 119, 120, 121, 122, 123, 124, 125, 126, 127, 128, 129, 130, 131, 132, 133, 134, 135, 136, 137, 138, 139, 140, 141, 142, 143, 144, 145, 146, 147, 148, 149, 150, 151, 152, 153, 154, 155, 156, 157, 158, 159, 160, 161, 162, 163, 164, 165, 166, 167, 168, 169, 170, 171, 172,
  173, 174, 175, 176, 177, 178, 179, 180, 181, 182, 183, 184, 185, 186, 187, 188, 189, 190, 191, 192, 193, 194, 195, 196, 197, 198, 199, 200, 201, 202, 203, 204, 205, 206, 207, 208, 209, 210, 211], []⟩)⟩ (tmpsOf Try.prog 4) 0 200 (joinIn Try.prog 4 29) (St.mk [und, AV.r (RV.c (CV.fs x0 10 [kI x1,
  kI x2, kI x3, kI x4, kI x5, kI x6, kI x7, kI x8, kI x9, kI x10])), und, und, und, AV.r (RV.c (CV.ptr 0 (Off.k 0) 8)), und, AV.r (RV.c (CV.ptr 1 (Off.k 0) 8)),
  AV.r (RV.c (fI x11)), und, und, und, und, und, und, und, und, und, und, und, und, und, und, und, und, und, und, und, und, und, und, AV.tup [], und, und, und, und, und, und, und, und, und,
  AV.tup [], und, und, und, und, und, und, und, und, AV.r (RV.c (CV.fs x12 10 [kI x13, kI x14, kI x15, kI x16, kI x17, kI x18, kI x19, kI x20, kI x21,
  kI x22])), und, und, und, und, und, und, und, und, und, AV.r (RV.c (CV.f (FV.b x23))), und, und, und, und, und, und, und, und, und, und, und, und, und, und, und, und, und, und, und, und, und, und,
  und, und, und, und, und, und, und, und, und, und, und, und, und, und, und, und, und, und, und, und, und, und, und, und, und, und, und, und, und, und, und, und, und, und, und, und, und, und,
  und, und, und, und, und, und, und, und, und, und, und, und, und, und, und, und, und, und, und, und, und, und, und, und, und, und, und, und, und, und, und, und, und, und, und, und, und, und,
  und, und, und, und, und, und, und, und, und, und, und, und, und, und, und, und, und, und, und, und, und, und, und, und, und, und, und, und, und, und, und, und, und, und, und, und, und, und,
  und, und, und, und, und, und, und, und, und, und, und, und, und, und, und] [some [Sg.c (fI x24), Sg.c (fI x25), Sg.c (fI x26), Sg.c (fI x27), Sg.c (fI x28),
  Sg.c (fI x29), Sg.c (CV.sl 2 (Off.x 0 0 9) (Sz.s x30) 9 x31), Sg.c (fI x32)], some [Sg.c (fI x33), Sg.c (CV.sl 3 (Off.x 0 x34 9) (Sz.s x35) 9 x36), Sg.c (fI x37), Sg.c (fI x38), Sg.c (fI x39),
  Sg.c (fI x40), Sg.c (fI x41), Sg.c (fI x42)], some [Sg.a (Sz.s x43) [kI x44, kI x45, kI x46, kI x47, kI x48, kI x49, kI x50, kI x51,
  kI x52]], some [Sg.a (Sz.s x53) [kI x54, kI x55, kI x56, kI x57, kI x58, kI x59, kI x60, kI x61, kI x62]]] []) K = S_astrolabelaw13_RingPlays_2 g_astrolabelaw13_awake g_ring_New g___ring_Buffer__Put g_astrolaberef13_Put g___ring_Buffer__Pop g_astrolaberef13_Pop g___ring_Buffer__Spoilt g_astrolaberef13_Spoilt g___ring_Buffer__Peek g___ring_Buffer__Len g___ring_Buffer__Horizon g__ring_Counts__Total x0 x1 x2 x3 x4 x5 x6 x7 x8 x9 x10 x11 x12 x13 x14 x15 x16 x17 x18 x19 x20 x21 x22 x23 x24 x25 x26 x27 x28 x29 x30 x31 x32 x33 x34 x35 x36 x37 x38 x39 x40 x41 x42 x43 x44 x45 x46 x47 x48 x49 x50 x51 x52 x53 x54 x55 x56 x57 x58 x59 x60 x61 x62 (fun _ => none) (Sum.elim (fun d => K (AX.ret) (St.mk [und,
  und, und, und, AV.r (RV.c (CV.f (FV.b false))), und, und, und, und, und, und, und, und, und, und, und, und, und, und, und, und, und, und, und, und, und, und, und, und, und, und, und, und, und, und, und,
  und, und, und, und, und, und, und, und, und, und, und, und, und, und, und, und, und, und, und, und, und, und, und, und, und, und, und, und, und, und, und, und, und, und, und, und, und, und,
  und, und, und, und, und, und, und, und, und, und, und, und, und, und, und, und, und, und, und, und, und, und, und, und, und, und, und, und, und, und, und, und, und, und, und, und, und, und,
  und, und, und, und, und, und, und, und, und, und, und, und, und, und, und, und, und, und, und, und, und, und, und, und, und, und, und, und, und, und, und, und, und, und, und, und, und, und,
  und, und, und, und, und, und, und, und, und, und, und, und, und, und, und, und, und, und, und, und, und, und, und, und, und, und, und, und, und, und, und, und, und, und, und, und, und, und,
  und, und, und, und, und, und, und, und, und, und, und, und, und, und, und, und, und, und, und, und, und, und, und, und] [] [])) (Sum.elim (fun d => K (AX.nrm) (St.mk [und, AV.r (RV.c (CV.fs d.1 10 [kI d.2.1,
  kI d.2.2.1, kI d.2.2.2.1, kI d.c4.1, kI d.c4.2.1, kI d.c4.2.2.1, kI d.c4.2.2.2.1, kI d.c8.1,
  kI d.c8.2.1, kI d.c8.2.2.1])), und, und, und, AV.r (RV.c (CV.ptr 0 (Off.k 0) 8)), und, AV.r (RV.c (CV.ptr 1 (Off.k 0) 8)), AV.r (RV.c (fI d.c8.2.2.2.1)),
  und, und, und, AV.r (RV.c (CV.ptr 4 (Off.k 0) 9)), AV.r (RV.c (CV.f (FV.b d.c8.c4.1))), und, und, und, und, und, und, und, und, und, und, und, und, und, und, und, und, und, AV.tup [], und, und,
  und, und, und, und, und, und, und, AV.tup [], und, und, und, und, und, und, und, und, AV.r (RV.c (CV.fs d.c8.c4.2.1 10 [kI d.c8.c4.2.2.1, kI d.c8.c4.2.2.2.1,
  kI d.c16.1, kI d.c16.2.1, kI d.c16.2.2.1, kI d.c16.2.2.2.1,
  kI d.c16.c4.1, kI d.c16.c4.2.1, kI d.c16.c4.2.2.1,
  kI d.c16.c4.2.2.2.1])), und, und, und, und, und, und, und, und, und, AV.r (RV.c (CV.f (FV.b d.c16.c8.1))),
  und, und, und, und, und, und, und, und, und, und, und, und, und, und, und, und, und, und, und, und, und, und, und, und, und, und, und, und, und, und, und, und, und, und, und, und, und, und,
  und, und, und, und, und, und, und, und, und, und, und, und, und, und, und, und, und, und, und, AV.tup [RV.agg [Sg.c (fI d.c16.c8.2.1),
  Sg.c (fI d.c16.c8.2.2.1), Sg.c (fI d.c16.c8.2.2.2.1), Sg.c (fI d.c16.c8.c4.1),
  Sg.c (fI d.c16.c8.c4.2.1), Sg.c (fI d.c16.c8.c4.2.2.1),
  Sg.c (fI d.c16.c8.c4.2.2.2.1), Sg.c (fI d.c16.c16.1),
  Sg.c (fI d.c16.c16.2.1)], RV.c (CV.f (FV.b d.c8.c4.1))], AV.r (RV.c (CV.ptr 0 (Off.k 0) 8)), AV.tup [RV.agg [Sg.c (fI d.c16.c8.2.1),
  Sg.c (fI d.c16.c8.2.2.1), Sg.c (fI d.c16.c8.2.2.2.1), Sg.c (fI d.c16.c8.c4.1),
  Sg.c (fI d.c16.c8.c4.2.1), Sg.c (fI d.c16.c8.c4.2.2.1),
  Sg.c (fI d.c16.c8.c4.2.2.2.1), Sg.c (fI d.c16.c16.1),
  Sg.c (fI d.c16.c16.2.1)], RV.c (CV.f (FV.b d.c8.c4.1))], AV.r (RV.agg [Sg.c (fI d.c16.c8.2.1),
  Sg.c (fI d.c16.c8.2.2.1), Sg.c (fI d.c16.c8.2.2.2.1), Sg.c (fI d.c16.c8.c4.1),
  Sg.c (fI d.c16.c8.c4.2.1), Sg.c (fI d.c16.c8.c4.2.2.1),
  Sg.c (fI d.c16.c8.c4.2.2.2.1), Sg.c (fI d.c16.c16.1),
  Sg.c (fI d.c16.c16.2.1)]), AV.r (RV.c (CV.f (FV.b d.c8.c4.1))), AV.r (RV.c (CV.ptr 0 (Off.k 0) 8)), AV.r (RV.c (CV.ptr 0 (Off.k 0) 8)),
  AV.r (RV.c (CV.ptr 0 (Off.k 0) 5)), AV.r (RV.agg [Sg.c (fI d.c16.c16.2.2.1), Sg.c (fI d.c16.c16.2.2.2.1),
  Sg.c (fI d.c16.c16.c4.1), Sg.c (fI d.c16.c16.c4.2.1),
  Sg.c (fI d.c16.c16.c4.2.2.1)]), AV.r (RV.c (CV.ptr 1 (Off.k 0) 8)), AV.r (RV.c (CV.ptr 1 (Off.k 0) 8)), AV.r (RV.c (CV.ptr 1 (Off.k 3) 5)), AV.r (RV.c (CV.ptr 1 (Off.k 3) 1)),
  AV.r (RV.c (fI d.c16.c16.c4.2.2.2.1)), AV.r (RV.c (CV.ptr 1 (Off.k 0) 8)), AV.r (RV.c (CV.ptr 1 (Off.k 0) 8)), AV.r (RV.c (CV.ptr 1 (Off.k 3) 5)),
  AV.r (RV.c (CV.ptr 1 (Off.k 4) 1)), AV.r (RV.c (fI d.c16.c16.c8.1)), AV.r (RV.c (CV.ptr 1 (Off.k 0) 8)), AV.r (RV.c (CV.ptr 1 (Off.k 0) 8)),
  AV.r (RV.c (CV.ptr 1 (Off.k 3) 5)), AV.r (RV.c (CV.ptr 1 (Off.k 5) 1)), AV.r (RV.c (fI d.c16.c16.c8.2.1)), AV.r (RV.c (CV.ptr 1 (Off.k 0) 8)),
  AV.r (RV.c (CV.ptr 1 (Off.k 0) 8)), AV.r (RV.c (CV.ptr 1 (Off.k 3) 5)), AV.r (RV.c (CV.ptr 1 (Off.k 6) 1)), AV.r (RV.c (fI d.c16.c16.c8.2.2.1)),
  AV.r (RV.c (CV.ptr 1 (Off.k 0) 8)), AV.r (RV.c (CV.ptr 1 (Off.k 0) 8)), AV.r (RV.c (CV.ptr 1 (Off.k 3) 5)), AV.r (RV.c (CV.ptr 1 (Off.k 7) 1)), AV.r (RV.c (fI d.c16.c16.c8.2.2.2.1)),
  AV.r (RV.agg [Sg.c (fI d.c16.c16.c4.2.2.2.1), Sg.c (fI d.c16.c16.c8.1),
  Sg.c (fI d.c16.c16.c8.2.1), Sg.c (fI d.c16.c16.c8.2.2.1),
  Sg.c (fI d.c16.c16.c8.2.2.2.1)]), AV.r (RV.c (CV.f (FV.b d.c16.c16.c8.c4.1))),
  AV.r (RV.c (CV.f (FV.b false))), AV.r (RV.c (CV.ptr 0 (Off.k 0) 8)), AV.r (RV.c (fI d.c16.c16.c8.c4.2.1)), AV.r (RV.c (CV.ptr 1 (Off.k 0) 8)),
  AV.r (RV.c (CV.ptr 1 (Off.k 0) 8)), AV.r (RV.c (CV.ptr 1 (Off.k 1) 1)), AV.r (RV.c (CV.sl 3 (Off.x 0 d.c16.c16.c8.c4.2.2.1 9) (Sz.s d.c16.c16.c8.c4.2.2.2.1) 9 d.c16.c16.c16.1)),
  AV.r (RV.c (fI d.c16.c16.c16.2.1)), AV.r (RV.c (CV.f (FV.b d.c16.c16.c16.2.2.1))),
  AV.r (RV.c (CV.f (FV.b d.c16.c16.c16.2.2.1))), AV.r (RV.c (CV.f (FV.b false))), AV.r (RV.c (CV.ptr 0 (Off.k 0) 8)),
  AV.r (RV.c (fI d.c16.c16.c16.2.2.2.1)), AV.r (RV.c (CV.ptr 1 (Off.k 0) 8)), AV.r (RV.c (CV.ptr 1 (Off.k 0) 8)),
  AV.r (RV.c (CV.ptr 1 (Off.k 2) 1)), AV.r (RV.c (fI d.c16.c16.c16.c4.1)), AV.r (RV.c (CV.f (FV.b d.c16.c16.c16.c4.2.1))),
  AV.r (RV.c (CV.f (FV.b d.c16.c16.c16.c4.2.1))), AV.r (RV.c (CV.f (FV.b false))), AV.r (RV.c (CV.f (FV.b d.c8.c4.1))),
  AV.r (RV.c (CV.ptr 1 (Off.k 0) 8)), AV.r (RV.c (CV.ptr 1 (Off.k 0) 8)), AV.r (RV.c (CV.ptr 1 (Off.k 1) 1)), AV.r (RV.c (CV.sl 3 (Off.x 0 d.c16.c16.c8.c4.2.2.1 9) (Sz.s d.c16.c16.c8.c4.2.2.2.1) 9 d.c16.c16.c16.1)),
  AV.r (RV.c (fI d.c16.c16.c16.2.1)), AV.r (RV.c (CV.f (FV.b d.c16.c16.c16.c4.2.2.1))),
  AV.r (RV.c (CV.f (FV.b d.c16.c16.c16.c4.2.2.2.1))), AV.r (RV.c (CV.f (FV.b d.c16.c16.c16.c4.2.2.2.1))),
  AV.r (RV.c (CV.f (FV.b false))), AV.r (RV.c (CV.f (FV.b d.c8.c4.1))), AV.r (RV.c (CV.f (FV.b true))), AV.r (RV.agg [Sg.c (fI d.c16.c8.2.1), Sg.c (fI d.c16.c8.2.2.1),
  Sg.c (fI d.c16.c8.2.2.2.1), Sg.c (fI d.c16.c8.c4.1), Sg.c (fI d.c16.c8.c4.2.1),
  Sg.c (fI d.c16.c8.c4.2.2.1), Sg.c (fI d.c16.c8.c4.2.2.2.1),
  Sg.c (fI d.c16.c16.1), Sg.c (fI d.c16.c16.2.1)]),
  AV.r (RV.c (CV.ptr 1 (Off.k 0) 8)), AV.r (RV.c (CV.ptr 1 (Off.k 0) 8)), AV.r (RV.c (CV.ptr 1 (Off.k 1) 1)), AV.r (RV.c (CV.sl 3 (Off.x 0 d.c16.c16.c8.c4.2.2.1 9) (Sz.s d.c16.c16.c8.c4.2.2.2.1) 9 d.c16.c16.c16.1)),
  AV.r (RV.c (CV.ptr 3 (Off.x 0 d.c16.c16.c8.c4.2.2.1 9) 9)), AV.r (RV.agg [Sg.c (fI d.c16.c16.c16.c8.1),
  Sg.c (fI d.c16.c16.c16.c8.2.1), Sg.c (fI d.c16.c16.c16.c8.2.2.1),
  Sg.c (fI d.c16.c16.c16.c8.2.2.2.1), Sg.c (fI d.c16.c16.c16.c8.c4.1),
  Sg.c (fI d.c16.c16.c16.c8.c4.2.1), Sg.c (fI d.c16.c16.c16.c8.c4.2.2.1),
  Sg.c (fI d.c16.c16.c16.c8.c4.2.2.2.1), Sg.c (fI d.c16.c16.c16.c16.1)]),
  AV.r (RV.c (CV.f (FV.b d.c16.c16.c16.c16.2.1))), AV.r (RV.c (CV.f (FV.b d.c16.c16.c16.c16.2.1))),
  AV.r (RV.c (CV.f (FV.b d.c16.c16.c16.c16.2.1))), AV.r (RV.c (CV.f (FV.b false))),
  AV.r (RV.c (CV.ptr 0 (Off.k 0) 8)), AV.r (RV.c (CV.ptr 0 (Off.k 0) 8)), AV.r (RV.c (CV.ptr 0 (Off.k 0) 5)), AV.r (RV.c (CV.ptr 0 (Off.k 0) 1)), AV.r (RV.c (fI d.c16.c16.2.2.1)),
  AV.r (RV.c (CV.ptr 0 (Off.k 0) 8)), AV.r (RV.c (CV.ptr 0 (Off.k 0) 8)), AV.r (RV.c (CV.ptr 0 (Off.k 0) 5)), AV.r (RV.agg [Sg.c (fI d.c16.c16.2.2.1), Sg.c (fI d.c16.c16.2.2.2.1),
  Sg.c (fI d.c16.c16.c4.1), Sg.c (fI d.c16.c16.c4.2.1),
  Sg.c (fI d.c16.c16.c4.2.2.1)]), AV.r (RV.c (fI d.c16.c16.c16.c16.2.2.1)),
  AV.r (RV.c (CV.ptr 0 (Off.k 0) 8)), AV.r (RV.c (fI d.c16.c16.c16.c16.2.2.2.1)),
  AV.r (RV.c (fI d.c16.c16.c16.c16.c4.1)),
  AV.r (RV.c (CV.f (FV.b d.c16.c16.c16.c16.c4.2.1))),
  AV.r (RV.c (CV.f (FV.b d.c16.c16.c16.c16.c4.2.1)))] [some [Sg.c (fI d.c16.c16.2.2.1),
  Sg.c (fI d.c16.c16.2.2.2.1), Sg.c (fI d.c16.c16.c4.1),
  Sg.c (fI d.c16.c16.c4.2.1), Sg.c (fI d.c16.c16.c4.2.2.1),
  Sg.c (fI d.c16.c16.c16.c16.c4.2.2.1),
  Sg.c (CV.sl 2 (Off.x 0 0 9) (Sz.s d.c16.c16.c16.c16.c4.2.2.2.1) 9 d.c16.c16.c16.c16.c8.1),
  Sg.c (fI d.c16.c16.c16.c16.c8.2.1)],
  some [Sg.c (fI d.c16.c16.c16.c16.c8.2.2.1),
  Sg.c (CV.sl 3 (Off.x 0 d.c16.c16.c8.c4.2.2.1 9) (Sz.s d.c16.c16.c8.c4.2.2.2.1) 9 d.c16.c16.c16.1),
  Sg.c (fI d.c16.c16.c16.c4.1), Sg.c (fI d.c16.c16.c4.2.2.2.1),
  Sg.c (fI d.c16.c16.c8.1), Sg.c (fI d.c16.c16.c8.2.1),
  Sg.c (fI d.c16.c16.c8.2.2.1), Sg.c (fI d.c16.c16.c8.2.2.2.1)],
  some [Sg.a (Sz.s d.c16.c16.c16.c16.c8.2.2.2.1) [kI d.c16.c16.c16.c16.c8.c4.1,
  kI d.c16.c16.c16.c16.c8.c4.2.1,
  kI d.c16.c16.c16.c16.c8.c4.2.2.1,
  kI d.c16.c16.c16.c16.c8.c4.2.2.2.1,
  kI d.c16.c16.c16.c16.c16.1,
  kI d.c16.c16.c16.c16.c16.2.1,
  kI d.c16.c16.c16.c16.c16.2.2.1,
  kI d.c16.c16.c16.c16.c16.2.2.2.1,
  kI d.c16.c16.c16.c16.c16.c4.1]],
  some [Sg.a (Sz.s d.c16.c16.c16.c16.c16.c4.2.1) [kI d.c16.c16.c16.c16.c16.c4.2.2.1,
  kI d.c16.c16.c16.c16.c16.c4.2.2.2.1,
  kI d.c16.c16.c16.c16.c16.c8.1,
  kI d.c16.c16.c16.c16.c16.c8.2.1,
  kI d.c16.c16.c16.c16.c16.c8.2.2.1,
  kI d.c16.c16.c16.c16.c16.c8.2.2.2.1,
  kI d.c16.c16.c16.c16.c16.c8.c4.1,
  kI d.c16.c16.c16.c16.c16.c8.c4.2.1,
  kI d.c16.c16.c16.c16.c16.c8.c4.2.2]],
  some [Sg.c (fI d.c16.c8.2.1), Sg.c (fI d.c16.c8.2.2.1), Sg.c (fI d.c16.c8.2.2.2.1),
  Sg.c (fI d.c16.c8.c4.1), Sg.c (fI d.c16.c8.c4.2.1),
  Sg.c (fI d.c16.c8.c4.2.2.1), Sg.c (fI d.c16.c8.c4.2.2.2.1),
  Sg.c (fI d.c16.c16.1), Sg.c (fI d.c16.c16.2.1)]] [])) (fun d => K (AX.nrm) (St.mk [und,
  AV.r (RV.c (CV.fs d.1 10 [kI d.2.1, kI d.2.2.1, kI d.2.2.2.1, kI d.c4.1, kI d.c4.2.1, kI d.c4.2.2.1, kI d.c4.2.2.2.1,
  kI d.c8.1, kI d.c8.2.1, kI d.c8.2.2.1])), und, und, und, AV.r (RV.c (CV.ptr 0 (Off.k 0) 8)), und, AV.r (RV.c (CV.ptr 1 (Off.k 0) 8)), AV.r (RV.c (fI d.c8.2.2.2.1)),
  und, und, und, AV.r (RV.c (CV.ptr 4 (Off.k 0) 9)), AV.r (RV.c (CV.f (FV.b d.c8.c4.1))), und, und, und, und, und, und, und, und, und, und, und, und, und, und, und, und, und, AV.tup [], und, und,
  und, und, und, und, und, und, und, AV.tup [], und, und, und, und, und, und, und, und, AV.r (RV.c (CV.fs d.c8.c4.2.1 10 [kI d.c8.c4.2.2.1, kI d.c8.c4.2.2.2.1,
  kI d.c16.1, kI d.c16.2.1, kI d.c16.2.2.1, kI d.c16.2.2.2.1,
  kI d.c16.c4.1, kI d.c16.c4.2.1, kI d.c16.c4.2.2.1,
  kI d.c16.c4.2.2.2.1])), und, und, und, und, und, und, und, und, und, AV.r (RV.c (CV.f (FV.b d.c16.c8.1))),
  und, und, und, und, und, und, und, und, und, und, und, und, und, und, und, und, und, und, und, und, und, und, und, und, und, und, und, und, und, und, und, und, und, und, und, und, und, und,
  und, und, und, und, und, und, und, und, und, und, und, und, und, und, und, und, und, und, und, AV.tup [RV.agg [Sg.c (fI d.c16.c8.2.1),
  Sg.c (fI d.c16.c8.2.2.1), Sg.c (fI d.c16.c8.2.2.2.1), Sg.c (fI d.c16.c8.c4.1),
  Sg.c (fI d.c16.c8.c4.2.1), Sg.c (fI d.c16.c8.c4.2.2.1),
  Sg.c (fI d.c16.c8.c4.2.2.2.1), Sg.c (fI d.c16.c16.1),
  Sg.c (fI d.c16.c16.2.1)], RV.c (CV.f (FV.b d.c8.c4.1))], AV.r (RV.c (CV.ptr 0 (Off.k 0) 8)), AV.tup [RV.agg [Sg.c (fI d.c16.c8.2.1),
  Sg.c (fI d.c16.c8.2.2.1), Sg.c (fI d.c16.c8.2.2.2.1), Sg.c (fI d.c16.c8.c4.1),
  Sg.c (fI d.c16.c8.c4.2.1), Sg.c (fI d.c16.c8.c4.2.2.1),
  Sg.c (fI d.c16.c8.c4.2.2.2.1), Sg.c (fI d.c16.c16.1),
  Sg.c (fI d.c16.c16.2.1)], RV.c (CV.f (FV.b d.c8.c4.1))], AV.r (RV.agg [Sg.c (fI d.c16.c8.2.1),
  Sg.c (fI d.c16.c8.2.2.1), Sg.c (fI d.c16.c8.2.2.2.1), Sg.c (fI d.c16.c8.c4.1),
  Sg.c (fI d.c16.c8.c4.2.1), Sg.c (fI d.c16.c8.c4.2.2.1),
  Sg.c (fI d.c16.c8.c4.2.2.2.1), Sg.c (fI d.c16.c16.1),
  Sg.c (fI d.c16.c16.2.1)]), AV.r (RV.c (CV.f (FV.b d.c8.c4.1))), AV.r (RV.c (CV.ptr 0 (Off.k 0) 8)), AV.r (RV.c (CV.ptr 0 (Off.k 0) 8)),
  AV.r (RV.c (CV.ptr 0 (Off.k 0) 5)), AV.r (RV.agg [Sg.c (fI d.c16.c16.2.2.1), Sg.c (fI d.c16.c16.2.2.2.1),
  Sg.c (fI d.c16.c16.c4.1), Sg.c (fI d.c16.c16.c4.2.1),
  Sg.c (fI d.c16.c16.c4.2.2.1)]), AV.r (RV.c (CV.ptr 1 (Off.k 0) 8)), AV.r (RV.c (CV.ptr 1 (Off.k 0) 8)), AV.r (RV.c (CV.ptr 1 (Off.k 3) 5)), AV.r (RV.c (CV.ptr 1 (Off.k 3) 1)),
  AV.r (RV.c (fI d.c16.c16.c4.2.2.2.1)), AV.r (RV.c (CV.ptr 1 (Off.k 0) 8)), AV.r (RV.c (CV.ptr 1 (Off.k 0) 8)), AV.r (RV.c (CV.ptr 1 (Off.k 3) 5)),
  AV.r (RV.c (CV.ptr 1 (Off.k 4) 1)), AV.r (RV.c (fI d.c16.c16.c8.1)), AV.r (RV.c (CV.ptr 1 (Off.k 0) 8)), AV.r (RV.c (CV.ptr 1 (Off.k 0) 8)),
  AV.r (RV.c (CV.ptr 1 (Off.k 3) 5)), AV.r (RV.c (CV.ptr 1 (Off.k 5) 1)), AV.r (RV.c (fI d.c16.c16.c8.2.1)), AV.r (RV.c (CV.ptr 1 (Off.k 0) 8)),
  AV.r (RV.c (CV.ptr 1 (Off.k 0) 8)), AV.r (RV.c (CV.ptr 1 (Off.k 3) 5)), AV.r (RV.c (CV.ptr 1 (Off.k 6) 1)), AV.r (RV.c (fI d.c16.c16.c8.2.2.1)),
  AV.r (RV.c (CV.ptr 1 (Off.k 0) 8)), AV.r (RV.c (CV.ptr 1 (Off.k 0) 8)), AV.r (RV.c (CV.ptr 1 (Off.k 3) 5)), AV.r (RV.c (CV.ptr 1 (Off.k 7) 1)), AV.r (RV.c (fI d.c16.c16.c8.2.2.2.1)),
  AV.r (RV.agg [Sg.c (fI d.c16.c16.c4.2.2.2.1), Sg.c (fI d.c16.c16.c8.1),
  Sg.c (fI d.c16.c16.c8.2.1), Sg.c (fI d.c16.c16.c8.2.2.1),
  Sg.c (fI d.c16.c16.c8.2.2.2.1)]), AV.r (RV.c (CV.f (FV.b d.c16.c16.c8.c4.1))),
  AV.r (RV.c (CV.f (FV.b false))), AV.r (RV.c (CV.ptr 0 (Off.k 0) 8)), AV.r (RV.c (fI d.c16.c16.c8.c4.2.1)), AV.r (RV.c (CV.ptr 1 (Off.k 0) 8)),
  AV.r (RV.c (CV.ptr 1 (Off.k 0) 8)), AV.r (RV.c (CV.ptr 1 (Off.k 1) 1)), AV.r (RV.c (CV.sl 3 (Off.x 0 d.c16.c16.c8.c4.2.2.1 9) (Sz.s d.c16.c16.c8.c4.2.2.2.1) 9 d.c16.c16.c16.1)),
  AV.r (RV.c (fI d.c16.c16.c16.2.1)), AV.r (RV.c (CV.f (FV.b d.c16.c16.c16.2.2.1))),
  AV.r (RV.c (CV.f (FV.b d.c16.c16.c16.2.2.1))), AV.r (RV.c (CV.f (FV.b false))), AV.r (RV.c (CV.ptr 0 (Off.k 0) 8)),
  AV.r (RV.c (fI d.c16.c16.c16.2.2.2.1)), AV.r (RV.c (CV.ptr 1 (Off.k 0) 8)), AV.r (RV.c (CV.ptr 1 (Off.k 0) 8)),
  AV.r (RV.c (CV.ptr 1 (Off.k 2) 1)), AV.r (RV.c (fI d.c16.c16.c16.c4.1)), AV.r (RV.c (CV.f (FV.b d.c16.c16.c16.c4.2.1))),
  AV.r (RV.c (CV.f (FV.b d.c16.c16.c16.c4.2.1))), AV.r (RV.c (CV.f (FV.b false))), AV.r (RV.c (CV.f (FV.b d.c8.c4.1))),
  AV.r (RV.c (CV.ptr 1 (Off.k 0) 8)), AV.r (RV.c (CV.ptr 1 (Off.k 0) 8)), AV.r (RV.c (CV.ptr 1 (Off.k 1) 1)), AV.r (RV.c (CV.sl 3 (Off.x 0 d.c16.c16.c8.c4.2.2.1 9) (Sz.s d.c16.c16.c8.c4.2.2.2.1) 9 d.c16.c16.c16.1)),
  AV.r (RV.c (fI d.c16.c16.c16.2.1)), AV.r (RV.c (CV.f (FV.b d.c16.c16.c16.c4.2.2.1))),
  AV.r (RV.c (CV.f (FV.b d.c16.c16.c16.c4.2.2.2.1))), AV.r (RV.c (CV.f (FV.b d.c16.c16.c16.c4.2.2.2.1))),
  AV.r (RV.c (CV.f (FV.b false))), AV.r (RV.c (CV.f (FV.b d.c8.c4.1))), AV.r (RV.c (CV.f (FV.b false))), AV.tup [], AV.tup [], AV.tup [], AV.tup [], AV.tup [], AV.tup [], AV.tup [], AV.tup [], AV.r (RV.c (CV.f (FV.b false))), AV.r (RV.c (CV.f (FV.b false))),
  AV.r (RV.c (CV.f (FV.b false))), AV.r (RV.c (CV.ptr 0 (Off.k 0) 8)), AV.r (RV.c (CV.ptr 0 (Off.k 0) 8)), AV.r (RV.c (CV.ptr 0 (Off.k 0) 5)), AV.r (RV.c (CV.ptr 0 (Off.k 0) 1)), AV.r (RV.c (fI d.c16.c16.2.2.1)),
  AV.r (RV.c (CV.ptr 0 (Off.k 0) 8)), AV.r (RV.c (CV.ptr 0 (Off.k 0) 8)), AV.r (RV.c (CV.ptr 0 (Off.k 0) 5)), AV.r (RV.agg [Sg.c (fI d.c16.c16.2.2.1), Sg.c (fI d.c16.c16.2.2.2.1),
  Sg.c (fI d.c16.c16.c4.1), Sg.c (fI d.c16.c16.c4.2.1),
  Sg.c (fI d.c16.c16.c4.2.2.1)]), AV.r (RV.c (fI d.c16.c16.c16.c8.1)),
  AV.r (RV.c (CV.ptr 0 (Off.k 0) 8)), AV.r (RV.c (fI d.c16.c16.c16.c8.2.1)),
  AV.r (RV.c (fI d.c16.c16.c16.c8.2.2.1)), AV.r (RV.c (CV.f (FV.b d.c16.c16.c16.c8.2.2.2.1))),
  AV.r (RV.c (CV.f (FV.b d.c16.c16.c16.c8.2.2.2.1)))] [some [Sg.c (fI d.c16.c16.2.2.1),
  Sg.c (fI d.c16.c16.2.2.2.1), Sg.c (fI d.c16.c16.c4.1),
  Sg.c (fI d.c16.c16.c4.2.1), Sg.c (fI d.c16.c16.c4.2.2.1),
  Sg.c (fI d.c16.c16.c16.c8.c4.1), Sg.c (CV.sl 2 (Off.x 0 0 9) (Sz.s d.c16.c16.c16.c8.c4.2.1) 9 d.c16.c16.c16.c8.c4.2.2.1),
  Sg.c (fI d.c16.c16.c16.c8.c4.2.2.2.1)], some [Sg.c (fI d.c16.c16.c16.c16.1),
  Sg.c (CV.sl 3 (Off.x 0 d.c16.c16.c8.c4.2.2.1 9) (Sz.s d.c16.c16.c8.c4.2.2.2.1) 9 d.c16.c16.c16.1),
  Sg.c (fI d.c16.c16.c16.c4.1), Sg.c (fI d.c16.c16.c4.2.2.2.1),
  Sg.c (fI d.c16.c16.c8.1), Sg.c (fI d.c16.c16.c8.2.1),
  Sg.c (fI d.c16.c16.c8.2.2.1), Sg.c (fI d.c16.c16.c8.2.2.2.1)],
  some [Sg.a (Sz.s d.c16.c16.c16.c16.2.1) [kI d.c16.c16.c16.c16.2.2.1,
  kI d.c16.c16.c16.c16.2.2.2.1, kI d.c16.c16.c16.c16.c4.1,
  kI d.c16.c16.c16.c16.c4.2.1,
  kI d.c16.c16.c16.c16.c4.2.2.1,
  kI d.c16.c16.c16.c16.c4.2.2.2.1,
  kI d.c16.c16.c16.c16.c8.1,
  kI d.c16.c16.c16.c16.c8.2.1,
  kI d.c16.c16.c16.c16.c8.2.2.1]],
  some [Sg.a (Sz.s d.c16.c16.c16.c16.c8.2.2.2.1) [kI d.c16.c16.c16.c16.c8.c4.1,
  kI d.c16.c16.c16.c16.c8.c4.2.1,
  kI d.c16.c16.c16.c16.c8.c4.2.2.1,
  kI d.c16.c16.c16.c16.c8.c4.2.2.2.1,
  kI d.c16.c16.c16.c16.c16.1,
  kI d.c16.c16.c16.c16.c16.2.1,
  kI d.c16.c16.c16.c16.c16.2.2.1,
  kI d.c16.c16.c16.c16.c16.2.2.2.1,
  kI d.c16.c16.c16.c16.c16.c4]],
  some [Sg.c (fI d.c16.c8.2.1), Sg.c (fI d.c16.c8.2.2.1), Sg.c (fI d.c16.c8.2.2.2.1),
  Sg.c (fI d.c16.c8.c4.1), Sg.c (fI d.c16.c8.c4.2.1),
  Sg.c (fI d.c16.c8.c4.2.2.1), Sg.c (fI d.c16.c8.c4.2.2.2.1),
  Sg.c (fI d.c16.c16.1), Sg.c (fI d.c16.c16.2.1)]] [])))) := by kernel_rfl
theorem so_astrolabelaw13_RingPlays_2 [Amb] : ∀ kk, JnOK Try.prog (envOf [(15, F_astrolabelaw13_awake f_astrolabelaw13_awake), (16, F_ring_New f_ring_New), (17, F___ring_Buffer__Put f___ring_Buffer__Put), (21, F_astrolaberef13_Put f_astrolaberef13_Put), (22, F___ring_Buffer__Pop f___ring_Buffer__Pop),
  (23, F_astrolaberef13_Pop f_astrolaberef13_Pop), (24, F___ring_Buffer__Spoilt f___ring_Buffer__Spoilt), (25, F_astrolaberef13_Spoilt f_astrolaberef13_Spoilt), (18, F___ring_Buffer__Peek f___ring_Buffer__Peek), (26, F___ring_Buffer__Len f___ring_Buffer__Len), (19, F___ring_Buffer__Horizon f___ring_Buffer__Horizon),
  (27, F__ring_Counts__Total f__ring_Counts__Total), (20, F_astrolaberef13_New f_astrolaberef13_New)]) ⟨[⟨10, [0, 2, 3, 4, 6, 9, 10, 11, 12, 13, 14, 15, 16, 17, 18, 19, 20, 21, 22, 23, 24, 25, 26, 27, 28, 29, 30, 32, 33, 34, 35, 36, 37, 38, 39, 40, 42, 43, 44, 45, 46, 47, 48, 49, 50, 51, 52,
  53, 54, 55, 56, 57, 58, 59, 60, 61, 63, 64, 65, 66, 67, 68, 69, 70, 71, 72, 74, 75, 76, 77, 78, 79, 80, 81, 82, 83, 84, 85, 86, 87, 88, 89, 90, 91, 92, 93, 94, 95, 96, 97, 98, 99, 100, 101, 102, 103, 104, 105, 106, 107, 108, 109, 110, 111, 112, 113, 114, 115, 116, 117, 118, 119, 120, 121, 122, 123, 124,
  125, 126, 127, 128, 129, 130, 131, 132, 133, 134, 135, 136, 137, 138, 139, 140, 141, 142, 143, 144, 145, 146, 147, 148, 149, 150, 151, 152, 153, 154, 163, 164, 172, 173, 182, 183, 195, 196, 211, 62, 73, 155, 156, 157, 158, 159, 160, 161, 162, 165, 166, 167, 168, 169, 170, 171, 174, 175, 176, 177, 178,
  179, 180, 181, 184, 185, 186, 187, 188, 189, 190, 191, 192, 193, 194, 197, 198, 199, 200, 201, 202, 203, 204, 205, 206, 207, 208, 209, 210], [(0, [])]⟩, ⟨24, [0, 2, 3, 4, 6, 12, 13, 14, 15, 16, 17, 18, 19, 20, 21, 22, 23, 24, 25, 26, 27, 28, 29, 30, 32, 33, 34, 35, 36, 37, 38, 39, 40, 42, 43, 44, 45,
  46, 47, 48, 49, 51, 52, 53, 54, 55, 56, 57, 58, 59, 61, 63, 64, 65, 66, 67, 68, 69, 70, 71, 72, 74, 75, 76, 77, 78, 79, 80, 81, 82, 83, 84, 85, 86, 87, 88, 89, 90, 91, 92, 93, 94, 95, 96, 97, 98, 99, 100, 101, 102, 103, 104, 105, 106, 107, 108, 109, 110, 111, 112, 113, 114, 115, 116, 117, 118, 119, 120,
  121, 122, 123, 124, 125, 126, 127, 128, 129, 130, 131, 132, 133, 134, 135, 136, 137, 138, 139, 140, 141, 142, 143, 144, 145, 146, 147, 148, 149, 150, 151, 152, 153, 154, 163, 164, 172, 173, 182, 183, 195, 196, 211], [(0, [])]⟩], [⟨24, 0, @R_astrolabelaw13_RingPlays_1 (@L_astrolabelaw13_RingPlays_1)⟩,
  ⟨10, 0, @R_astrolabelaw13_RingPlays_0 (@L_astrolabelaw13_RingPlays_0)⟩], [], [⟨⟨29, [0, 2, 3, 4, 6, 9, 10, 11, 12, 13, 14, 15, 16, 17, 18, 19, 20, 21, 22, 23, 24, 25, 26, 27, 28, 29, 30, 32, 33, 34, 35, 36, 37, 38, 39, 40, 42, 43, 44, 45, 46, 47, 48, 49, 51, 52, 53, 54, 55, 56, 57, 58, 59, 61, 63, 64,
  65, 66, 67, 68, 69, 70, 71, 72, 74, 75, 76, 77, 78, 79, 80, 81, 82, 83, 84, 85, 86, 87, 88, 89, 90, 91, 92, 93, 94, 95, 96, 97, 98, 99, 100, 101, 102, 103, 104, 105, 106, 107, 108, 109, 110, 111, 112, 113, 114, 115, 116, 117, 118, 119, 120, 121, 122, 123, 124, 125, 126, 127, 128, 129, 130, 131, 132,
  133, 134, 135, 136, 137, 138, 139, 140, 141, 142, 143, 144, 145, 146, 147, 148, 149, 150, 151, 152, 153, 154, 163, 164, 172, 173, 182, 183, 195, 196, 211, 62, 73], [(0, [])]⟩, ⟨29, 0, @R_astrolabelaw13_RingPlays_2 (@L_astrolabelaw13_RingPlays_2)⟩⟩], (some ⟨0, [0, 1, 2, 3, 5, 6, 7, 8, 9, 10, 11, 12, 13,
  14, 15, 16, 17, 18, 19, 20, 21, 22, 23, 24, 25, 26, 27, 28, 29, 30, 31, 32, 33, 34, 35, 36, 37, 38, 39, 40, 41, 42, 43, 44, 45, 46, 47, 48, 49, 50, 51, 52, 53, 54, 55, 56, 57, 58, 59, 60, 61, 62, 63, 64, 65, 66, 67, 68, 69, 70, 71, 72, 73, 74, 75, 76, 77, 78, 79, 80, 81, 82, 83, 84, 85, 86, 87, 88, 89,
  90, 91, 92, 93, 94, 95, 96, 97, 98, 99, 100, 101, 102, 103, 104, 105, 106, 107, 108, 109, 110, 111, 112, 113, 114, 115, 116, 117, 118, 119, 120, 121, 122, 123, 124, 125, 126, 127, 128, 129, 130, 131, 132, 133, 134, 135, 136, 137, 138, 139, 140, 141, 142, 143, 144, 145, 146, 147, 148, 149, 150, 151, 152,
  153, 154, 155, 156, 157, 158, 159, 160, 161, 162, 163, 164, 165, 166, 167, 168, 169, 170, 171, 172, 173, 174, 175, 176, 177, 178, 179, 180, 181, 182, 183, 184, 185, 186, 187, 188, 189, 190, 191, 192, 193, 194, 195, 196, 197, 198, 199, 200, 201, 202, 203, 204, 205, 206, 207, 208, 209, 210, 211], []⟩)⟩ (tmpsOf Try.prog 4) kk 200 (joinIn Try.prog 4 29) := JnOK.of (id := 29) (k0 := 0) (hd := ⟨29,
  [0, 2, 3, 4, 6, 9, 10, 11, 12, 13, 14, 15, 16, 17, 18, 19, 20, 21, 22, 23, 24, 25, 26, 27, 28, 29, 30, 32, 33, 34, 35, 36, 37, 38, 39, 40, 42, 43, 44, 45, 46, 47, 48, 49, 51, 52, 53, 54, 55, 56, 57, 58, 59, 61, 63, 64, 65, 66, 67, 68, 69, 70, 71, 72, 74, 75, 76, 77, 78, 79, 80, 81, 82, 83, 84, 85, 86,
  87, 88, 89, 90, 91, 92, 93, 94, 95, 96, 97, 98, 99, 100, 101, 102, 103, 104, 105, 106, 107, 108, 109, 110, 111, 112, 113, 114, 115, 116, 117, 118, 119, 120, 121, 122, 123, 124, 125, 126, 127, 128, 129, 130, 131, 132, 133, 134, 135, 136, 137, 138, 139, 140, 141, 142, 143, 144, 145, 146, 147, 148, 149,
  150, 151, 152, 153, 154, 163, 164, 172, 173, 182, 183, 195, 196, 211, 62, 73], [(0, [])]⟩) (run := @R_astrolabelaw13_RingPlays_2 (@L_astrolabelaw13_RingPlays_2)) (by kernel_rfl) fun s K r hr => by
    unfold R_astrolabelaw13_RingPlays_2 at hr
    obtain ⟨b, hb, hr1⟩ := Option.bind_eq_some_iff.1 hr
    have e := ((Q_astrolabelaw13_RingPlays_2).ok s b hb).trans (q_astrolabelaw13_RingPlays_2 b)
    subst e
    exact (ds_astrolabelaw13_RingPlays_2 f_astrolabelaw13_awake f_ring_New f___ring_Buffer__Put f_astrolaberef13_Put f___ring_Buffer__Pop f_astrolaberef13_Pop f___ring_Buffer__Spoilt f_astrolaberef13_Spoilt f___ring_Buffer__Peek f___ring_Buffer__Len f___ring_Buffer__Horizon f__ring_Counts__Total (@L_astrolabelaw13_RingPlays_1) (@L_astrolabelaw13_RingPlays_2) (@L_astrolabelaw13_RingPlays_0) b.1.2.1.1 b.1.2.1.2.2.1 b.1.2.1.2.2.2.1 b.1.2.1.c4.1 b.1.2.1.c4.2.1 b.1.2.1.c4.2.2.1 b.1.2.1.c4.2.2.2.1 b.1.2.1.c8.1 b.1.2.1.c8.2.1 b.1.2.1.c8.2.2.1 b.1.2.1.c8.2.2.2.1 b.1.c8.1 b.1.c16.c16.c16.2.2.1.1 b.1.c16.c16.c16.2.2.1.2.2.1 b.1.c16.c16.c16.2.2.1.2.2.2.1 b.1.c16.c16.c16.2.2.1.c4.1 b.1.c16.c16.c16.2.2.1.c4.2.1 b.1.c16.c16.c16.2.2.1.c4.2.2.1 b.1.c16.c16.c16.2.2.1.c4.2.2.2.1 b.1.c16.c16.c16.2.2.1.c8.1 b.1.c16.c16.c16.2.2.1.c8.2.1 b.1.c16.c16.c16.2.2.1.c8.2.2.1 b.1.c16.c16.c16.2.2.1.c8.2.2.2.1 b.1.c16.c16.c16.c8.c4.1 b.2.1.1.1 b.2.1.1.2.1 b.2.1.1.2.2.1 b.2.1.1.2.2.2.1 b.2.1.1.c4.1 b.2.1.1.c4.2.1 b.2.1.1.c4.2.2.1.2.2.1 b.2.1.1.c4.2.2.1.c4 b.2.1.1.c4.2.2.2.1 b.2.1.2.1.1 b.2.1.2.1.2.1.2.1.2.1 b.2.1.2.1.2.1.2.2.1 b.2.1.2.1.2.1.c4 b.2.1.2.1.2.2.1 b.2.1.2.1.2.2.2.1 b.2.1.2.1.c4.1 b.2.1.2.1.c4.2.1 b.2.1.2.1.c4.2.2.1 b.2.1.2.1.c4.2.2.2.1 b.2.1.2.2.1.1.1 b.2.1.2.2.1.1.2.1 b.2.1.2.2.1.1.2.2.1 b.2.1.2.2.1.1.2.2.2.1 b.2.1.2.2.1.1.c4.1 b.2.1.2.2.1.1.c4.2.1 b.2.1.2.2.1.1.c4.2.2.1 b.2.1.2.2.1.1.c4.2.2.2.1 b.2.1.2.2.1.1.c8.1 b.2.1.2.2.1.1.c8.2.1 b.2.1.2.2.2.1.1.1 b.2.1.2.2.2.1.1.2.1 b.2.1.2.2.2.1.1.2.2.1 b.2.1.2.2.2.1.1.2.2.2.1 b.2.1.2.2.2.1.1.c4.1 b.2.1.2.2.2.1.1.c4.2.1 b.2.1.2.2.2.1.1.c4.2.2.1 b.2.1.2.2.2.1.1.c4.2.2.2.1 b.2.1.2.2.2.1.1.c8.1 b.2.1.2.2.2.1.1.c8.2.1 K).trans hr1
theorem ds_astrolabelaw13_RingPlays_0 {ρ : Type} (g_astrolabelaw13_awake : Option Bool) (g_ring_New : Int → Option (Unit ⊕ Int × NI)) (g___ring_Buffer__Put : RGPg19) (g_astrolaberef13_Put : RGPg9) (g___ring_Buffer__Pop : RGPg10) (g_astrolaberef13_Pop : RGPg11) (g___ring_Buffer__Spoilt : RGPg12) (g_astrolaberef13_Spoilt : RGPg13) (g___ring_Buffer__Peek : RGPg14) (g___ring_Buffer__Len : RGPg15) (g___ring_Buffer__Horizon : RGPg15) (g__ring_Counts__Total : Int → Int → Int → Int → Int → Option Int) (l_1 : ∀ {ρ : Type}, (Nat × NI × NI × (Nat →
  Int) × RGPt28) →
  ((Unit ⊕ Nat × NI × NI × NI × NI × NI × NI × NI × NI × NI × NI × Int × Nat × Nat × Int × Nat × NI × NI × NI × NI × NI × NI × NI × NI × (Nat →
  Int) × RGPt29) → Option ρ) → Option ρ) (l_2 : ∀ {ρ : Type}, (Nat × NI × NI × NI × NI × NI × NI × NI × NI × NI × NI × Int × Nat × NI × NI ×
  NI × NI × NI × NI × NI × NI × NI × NI × Bool × Int × Int × Int × Int × Int × Int × Nat × Bool × Int × Int × Nat × Nat × Bool × Int × Int × Int × Int × Int × Int × Nat × NI × NI × NI × NI × (Nat →
  Int) × RGPt21) → ((Unit ⊕ Nat × NI × NI × NI × NI × NI × NI × (Nat →
  Int) × NI × NI × NI × Int × Bool × Nat × NI × NI × NI × NI × NI × NI × NI × NI × NI × NI × Bool × Int × Int × Int × Int × Int × Int × Int × Int × Int × Int × Int × Int × Int × Int × Int ×
  Int × Int × Int × Int × Bool × Int × Nat × Nat × Bool × Int × Bool × Int × Int × Bool × Bool × Bool × Int × Int × Int × Int × Int × Int × Int × Int × Int × Bool × Int × Int × Int × Bool × Int × Nat × Bool × Int × Int × Nat × NI × NI × NI × NI × NI × (Nat →
  Int) × RGPt30 ⊕ Nat × NI × NI × NI × NI × NI × NI × NI × NI × (Nat →
  Int) × NI × Int × Bool × Nat × NI × NI × NI × NI × NI × NI × NI × NI × NI × NI × Bool × Int × Int × Int × Int × Int × Int × Int × Int × Int × Int × Int × Int × Int × Int × Int × Int × Int × Int × Int ×
  Bool × Int × Nat × Nat × Bool × Int × Bool × Int × Int × Bool × Bool × Bool × Int × Int × Int × Bool × Int × Nat × Bool × Int × Int × Nat × NI × NI × NI × NI × NI × NI × NI × NI × NI × Nat × NI × NI × (Nat →
  Int) × NI × NI × NI × NI × NI × NI) → Option ρ) → Option ρ) (l_0 : ∀ {ρ : Type}, (RGPt37) → ((Unit ⊕ RGPt42) →
  Option ρ) → Option ρ) (x0 : Nat) (x1 : Nat → Int) (x2 : Nat → Int) (x3 : Nat → Int) (x4 : Nat → Int) (x5 : Nat → Int) (x6 : Nat → Int) (x7 : Nat → Int) (x8 : Nat → Int) (x9 : Nat → Int) (x10 : Nat → Int) (x11 : Int) (x12 : Int) (x13 : Int) (x14 : Int) (x15 : Int) (x16 : Int) (x17 : Int) (x18 : Nat) (x19 : Bool) (x20 : Int) (x21 : Int) (x22 : Nat) (x23 : Nat) (x24 : Bool) (x25 : Int) (x26 : Int) (x27 : Int) (x28 : Int) (x29 : Int) (x30 : Int) (x31 : Nat) (x32 : Nat →
  Int) (x33 : Nat → Int) (x34 : Nat → Int) (x35 : Nat → Int) (x36 : Nat → Int) (x37 : Nat → Int) (x38 : Nat → Int) (x39 : Nat → Int) (x40 : Nat → Int) (x41 : Nat) (x42 : Nat → Int) (x43 : Nat → Int) (x44 : Nat → Int) (x45 : Nat → Int) (x46 : Nat → Int) (x47 : Nat → Int) (x48 : Nat → Int) (x49 : Nat → Int) (x50 : Nat →
  Int) (c : St → Option ρ) (K : AX → St → Option ρ) : runC Try.prog (envOf [(15, F_astrolabelaw13_awake g_astrolabelaw13_awake), (16, F_ring_New g_ring_New), (17, F___ring_Buffer__Put g___ring_Buffer__Put), (21, F_astrolaberef13_Put g_astrolaberef13_Put), (22, F___ring_Buffer__Pop g___ring_Buffer__Pop),
  (23, F_astrolaberef13_Pop g_astrolaberef13_Pop), (24, F___ring_Buffer__Spoilt g___ring_Buffer__Spoilt), (25, F_astrolaberef13_Spoilt g_astrolaberef13_Spoilt), (18, F___ring_Buffer__Peek g___ring_Buffer__Peek), (26, F___ring_Buffer__Len g___ring_Buffer__Len), (19, F___ring_Buffer__Horizon g___ring_Buffer__Horizon),
  (27, F__ring_Counts__Total g__ring_Counts__Total), (20, F_astrolaberef13_New f_astrolaberef13_New)]) ⟨[⟨10, [0, 2, 3, 4, 6, 9, 10, 11, 12, 13, 14, 15, 16, 17, 18, 19, 20, 21, 22, 23, 24, 25, 26, 27, 28, 29, 30, 32, 33, 34, 35, 36, 37, 38, 39, 40, 42, 43, 44, 45, 46, 47, 48, 49, 50, 51, 52,
  53, 54, 55, 56, 57, 58, 59, 60, 61, 63, 64, 65, 66, 67, 68, 69, 70, 71, 72, 74, 75, 76, 77, 78, 79, 80, 81, 82, 83, 84, 85, 86, 87, 88, 89, 90, 91, 92, 93, 94, 95, 96, 97, 98, 99, 100, 101, 102, 103, 104, 105, 106, 107, 108, 109, 110, 111, 112, 113, 114, 115, 116, 117, 118, 119, 120, 121, 122, 123, 124,
  125, 126, 127, 128, 129, 130, 131, 132, 133, 134, 135, 136, 137, 138, 139, 140, 141, 142, 143, 144, 145, 146, 147, 148, 149, 150, 151, 152, 153, 154, 163, 164, 172, 173, 182, 183, 195, 196, 211, 62, 73, 155, 156, 157, 158, 159, 160, 161, 162, 165, 166, 167, 168, 169, 170, 171, 174, 175, 176, 177, 178,
  179, 180, 181, 184, 185, 186, 187, 188, 189, 190, 191, 192, 193, 194, 197, 198, 199, 200, 201, 202, 203, 204, 205, 206, 207, 208, 209, 210], [(0, [])]⟩, ⟨24, [0, 2, 3, 4, 6, 12, 13, 14, 15, 16, 17, 18, 19, 20, 21, 22, 23, 24, 25, 26, 27, 28, 29, 30, 32, 33, 34, 35, 36, 37, 38, 39, 40, 42, 43, 44, 45,
  46, 47, 48, 49, 51, 52, 53, 54, 55, 56, 57, 58, 59, 61, 63, 64, 65, 66, 67, 68, 69, 70, 71, 72, 74, 75, 76, 77, 78, 79, 80, 81, 82, 83, 84, 85, 86, 87, 88, 89, 90, 91, 92, 93, 94, 95, 96, 97, 98, 99, 100, 101, 102, 103, 104, 105, 106, 107, 108, 109, 110, 111, 112, 113, 114, 115, 116, 117, 118, 119, 120,
  121, 122, 123, 124, 125, 126, 127, 128, 129, 130, 131, 132, 133, 134, 135, 136, 137, 138, 139, 140, 141, 142, 143, 144, 145, 146, 147, 148, 149, 150, 151, 152, 153, 154, 163, 164, 172, 173, 182, 183, 195, 196, 211], [(0, [])]⟩], [⟨24, 0, @R_astrolabelaw13_RingPlays_1 (@l_1)⟩, ⟨10, 0, @R_astrolabelaw13_RingPlays_0 (@l_0)⟩],
  [], [⟨⟨29, [0, 2, 3, 4, 6, 9, 10, 11, 12, 13, 14, 15, 16, 17, 18, 19, 20, 21, 22, 23, 24, 25, 26, 27, 28, 29, 30, 32, 33, 34, 35, 36, 37, 38, 39, 40, 42, 43, 44, 45, 46, 47, 48, 49, 51, 52, 53, 54, 55, 56, 57, 58, 59, 61, 63, 64, 65, 66, 67, 68, 69, 70, 71, 72, 74, 75, 76, 77, 78, 79, 80, 81, 82, 83,
  84, 85, 86, 87, 88, 89, 90, 91, 92, 93, 94, 95, 96, 97, 98, 99, 100, 101, 102, 103, 104, 105, 106, 107, 108, 109, 110, 111, 112, 113, 114, 115, 116, 117, 118, 119, 120, 121, 122, 123, 124, 125, 126, 127, 128, 129, 130, 131, 132, 133, 134, 135, 136, 137, 138, 139, 140, 141, 142, 143, 144, 145, 146, 147,
  148, 149, 150, 151, 152, 153, 154, 163, 164, 172, 173, 182, 183, 195, 196, 211, 62, 73], [(0, [])]⟩, ⟨29, 0, @R_astrolabelaw13_RingPlays_2 (@l_2)⟩⟩], (some ⟨0, [0, 1, 2, 3, 5, 6, 7, 8, 9, 10, 11, 12, 13, 14, 15, 16, 17, 18, 19, 20, 21, 22, 23, 24, 25, 26, 27, 28, 29, 30, 31, 32, 33, 34, 35, 36, 37, 38,
  39, 40, 41, 42, 43, 44, 45, 46, 47, 48, 49, 50, 51, 52, 53, 54, 55, 56, 57, 58, 59, 60, 61, 62, 63, 64, 65, 66, 67, 68, 69, 70, 71, 72, 73, 74, 75, 76, 77, 78, 79, 80, 81, 82, 83, 84, 85, 86, 87, 88, 89, 90, 91, 92, 93, 94, 95, 96, 97, 98, 99, 100, 101, 102, 103, 104, 105, 106, 107, 108, 109, 110, 111,
  112, 113, 114, 115, 116, 117, 118, 119, 120, 121, 122, 123, 124, 125, 126, 127, 128, 129, 130, 131, 132, 133, 134, 135, 136, 137, 138, 139, 140, 141, 142, 143, 144, 145, 146, 147, 148, 149, 150, 151, 152, 153, 154, 155, 156, 157, 158, 159, 160, 161, 162, 163, 164, 165, 166, 167, 168, 169, 170, 171, 172,
  173, 174, 175, 176, 177, 178, 179, 180, 181, 182, 183, 184, 185, 186, 187, 188, 189, 190, 191, 192, 193, 194, 195, 196, 197, 198, 199, 200, 201, 202, 203, 204, 205, 206, 207, 208, 209, 210, 211], []⟩)⟩ (tmpsOf Try.prog 4) 0 200 (loopIn Try.prog 4 10) (St.mk [und, AV.r (RV.c (CV.fs x0 10 [kI x1,
  kI x2, kI x3, kI x4, kI x5, kI x6, kI x7, kI x8, kI x9, kI x10])), und, und, und, AV.r (RV.c (CV.ptr 0 (Off.k 0) 8)), und, AV.r (RV.c (CV.ptr 1 (Off.k 0) 8)),
  AV.r (RV.c (fI x11)), und, und, und, und, und, und, und, und, und, und, und, und, und, und, und, und, und, und, und, und, und, und, AV.tup [], und, und, und, und, und, und, und, und, und,
  AV.tup [], und, und, und, und, und, und, und, und, und, und, und, und, und, und, und, und, und, und, und, und, und, und, und, und, und, und, und, und, und, und, und, und, und, und, und, und, und,
  und, und, und, und, und, und, und, und, und, und, und, und, und, und, und, und, und, und, und, und, und, und, und, und, und, und, und, und, und, und, und, und, und, und, und, und, und, und,
  und, und, und, und, und, und, und, und, und, und, und, und, und, und, und, und, und, und, und, und, und, und, und, und, und, und, und, und, und, und, und, und, und, und, und, und, und, und,
  und, und, und, und, und, und, und, und, und, und, und, und, und, und, und, und, und, und, und, und, und, und, und, und, und, und, und, und, und, und, und, und, und, und, und, und, und, und,
  und, und, und, und, und, und, und, und, und, und, und, und, und, und, und, und, und, und, und] [some [Sg.c (fI x12), Sg.c (fI x13), Sg.c (fI x14), Sg.c (fI x15),
  Sg.c (fI x16), Sg.c (fI x17), Sg.c (CV.sl 2 (Off.x 0 0 9) (Sz.s x18) 9 x19), Sg.c (fI x20)], some [Sg.c (fI x21), Sg.c (CV.sl 3 (Off.x 0 x22 9) (Sz.s x23) 9 x24), Sg.c (fI x25), Sg.c (fI x26),
  Sg.c (fI x27), Sg.c (fI x28), Sg.c (fI x29), Sg.c (fI x30)], some [Sg.a (Sz.s x31) [kI x32, kI x33, kI x34, kI x35, kI x36, kI x37,
  kI x38, kI x39, kI x40]], some [Sg.a (Sz.s x41) [kI x42, kI x43, kI x44, kI x45, kI x46, kI x47, kI x48, kI x49, kI x50]]] []) (next (fun t => t.head 0 ⟨[⟨10,
  [0, 2, 3, 4, 6, 9, 10, 11, 12, 13, 14, 15, 16, 17, 18, 19, 20, 21, 22, 23, 24, 25, 26, 27, 28, 29, 30, 32, 33, 34, 35, 36, 37, 38, 39, 40, 42, 43, 44, 45, 46, 47, 48, 49, 50, 51, 52, 53, 54, 55, 56, 57, 58, 59, 60, 61, 63, 64, 65, 66, 67, 68, 69, 70, 71, 72, 74, 75, 76, 77, 78, 79, 80, 81, 82, 83, 84,
  85, 86, 87, 88, 89, 90, 91, 92, 93, 94, 95, 96, 97, 98, 99, 100, 101, 102, 103, 104, 105, 106, 107, 108, 109, 110, 111, 112, 113, 114, 115, 116, 117, 118, 119, 120, 121, 122, 123, 124, 125, 126, 127, 128, 129, 130, 131, 132, 133, 134, 135, 136, 137, 138, 139, 140, 141, 142, 143, 144, 145, 146, 147, 148,
  149, 150, 151, 152, 153, 154, 163, 164, 172, 173, 182, 183, 195, 196, 211, 62, 73, 155, 156, 157, 158, 159, 160, 161, 162, 165, 166, 167, 168, 169, 170, 171, 174, 175, 176, 177, 178, 179, 180, 181, 184, 185, 186, 187, 188, 189, 190, 191, 192, 193, 194, 197, 198, 199, 200, 201, 202, 203, 204, 205, 206,
  207, 208, 209, 210], [(0, [])]⟩, ⟨24, [0, 2, 3, 4, 6, 12, 13, 14, 15, 16, 17, 18, 19, 20, 21, 22, 23, 24, 25, 26, 27, 28, 29, 30, 32, 33, 34, 35, 36, 37, 38, 39, 40, 42, 43, 44, 45, 46, 47, 48, 49, 51, 52, 53, 54, 55, 56, 57, 58, 59, 61, 63, 64, 65, 66, 67, 68, 69, 70, 71, 72, 74, 75, 76, 77, 78, 79,
  80, 81, 82, 83, 84, 85, 86, 87, 88, 89, 90, 91, 92, 93, 94, 95, 96, 97, 98, 99, 100, 101, 102, 103, 104, 105, 106, 107, 108, 109, 110, 111, 112, 113, 114, 115, 116, 117, 118, 119, 120, 121, 122, 123, 124, 125, 126, 127, 128, 129, 130, 131, 132, 133, 134, 135, 136, 137, 138, 139, 140, 141, 142, 143, 144,
  145, 146, 147, 148, 149, 150, 151, 152, 153, 154, 163, 164, 172, 173, 182, 183, 195, 196, 211], [(0, [])]⟩], [⟨24, 0, @R_astrolabelaw13_RingPlays_1 (@l_1)⟩, ⟨10, 0, @R_astrolabelaw13_RingPlays_0 (@l_0)⟩], [], [⟨⟨29, [0, 2, 3, 4, 6, 9, 10, 11, 12, 13, 14, 15, 16, 17, 18, 19, 20, 21, 22, 23, 24, 25, 26,
  27, 28, 29, 30, 32, 33, 34, 35, 36, 37, 38, 39, 40, 42, 43, 44, 45, 46, 47, 48, 49, 51, 52, 53, 54, 55, 56, 57, 58, 59, 61, 63, 64, 65, 66, 67, 68, 69, 70, 71, 72, 74, 75, 76, 77, 78, 79, 80, 81, 82, 83, 84, 85, 86, 87, 88, 89, 90, 91, 92, 93, 94, 95, 96, 97, 98, 99, 100, 101, 102, 103, 104, 105, 106,
  107, 108, 109, 110, 111, 112, 113, 114, 115, 116, 117, 118, 119, 120, 121, 122, 123, 124, 125, 126, 127, 128, 129, 130, 131, 132, 133, 134, 135, 136, 137, 138, 139, 140, 141, 142, 143, 144, 145, 146, 147, 148, 149, 150, 151, 152, 153, 154, 163, 164, 172, 173, 182, 183, 195, 196, 211, 62, 73], [(0, [])]⟩,
  ⟨29, 0, @R_astrolabelaw13_RingPlays_2 (@l_2)⟩⟩], (some ⟨0, [0, 1, 2, 3, 5, 6, 7, 8, 9, 10, 11, 12, 13, 14, 15, 16, 17, 18, 19, 20, 21, 22, 23, 24, 25, 26, 27, 28, 29, 30, 31, 32, 33, 34, 35, 36, 37, 38, 39, 40, 41, 42, 43, 44, 45, 46, 47, 48, 49, 50, 51, 52, 53, 54, 55, 56, 57, 58, 59, 60, 61, 62, 63,
  64, 65, 66, 67, 68, 69, 70, 71, 72, 73, 74, 75, 76, 77, 78, 79, 80, 81, 82, 83, 84, 85, 86, 87, 88, 89, 90, 91, 92, 93, 94, 95, 96, 97, 98, 99, 100, 101, 102, 103, 104, 105, 106, 107, 108, 109, 110, 111, 112, 113, 114, 115, 116, 117, 118, 119, 120, 121, 122, 123, 124, 125, 126, 127, 128, 129, 130, 131,
  132, 133, 134, 135, 136, 137, 138, 139, 140, 141, 142, 143, 144, 145, 146, 147, 148, 149, 150, 151, 152, 153, 154, 155, 156, 157, 158, 159, 160, 161, 162, 163, 164, 165, 166, 167, 168, 169, 170, 171, 172, 173, 174, 175, 176, 177, 178, 179, 180, 181, 182, 183, 184, 185, 186, 187, 188, 189, 190, 191, 192,
  193, 194, 195, 196, 197, 198, 199, 200, 201, 202, 203, 204, 205, 206, 207, 208, 209, 210, 211], []⟩)⟩ (loopIn Try.prog 4 10)) c K) = S_astrolabelaw13_RingPlays_0 g_astrolabelaw13_awake g_ring_New g___ring_Buffer__Put g_astrolaberef13_Put g___ring_Buffer__Pop g_astrolaberef13_Pop g___ring_Buffer__Spoilt g_astrolaberef13_Spoilt g___ring_Buffer__Peek g___ring_Buffer__Len g___ring_Buffer__Horizon g__ring_Counts__Total (@l_1) (@l_2) x0 x1 x2 x3 x4 x5 x6 x7 x8 x9 x10 x11 x12 x13 x14 x15 x16 x17 x18 x19 x20 x21 x22 x23 x24 x25 x26 x27 x28 x29 x30 x31 x32 x33 x34 x35 x36 x37 x38 x39 x40 x41 x42 x43 x44 x45 x46 x47 x48 x49 x50 (fun d => c (St.mk [und,
  AV.r (RV.c (CV.fs d.1 10 [kI d.2.1, kI d.2.2.1, kI d.2.2.2.1, kI d.c4.1, kI d.c4.2.1, kI d.c4.2.2.1, kI d.c4.2.2.2.1,
  kI d.c8.1, kI d.c8.2.1, kI d.c8.2.2.1])), und, und, und, AV.r (RV.c (CV.ptr 0 (Off.k 0) 8)), und, AV.r (RV.c (CV.ptr 1 (Off.k 0) 8)), AV.r (RV.c (fI d.c8.2.2.2.1)),
  und, und, und, und, und, und, und, und, und, und, und, und, und, und, und, und, und, und, und, und, und, und, AV.tup [], und, und, und, und, und, und, und, und, und, AV.tup [], und, und, und, und,
  und, und, und, und, und, und, und, und, und, und, und, und, und, und, und, und, und, und, und, und, und, und, und, und, und, und, und, und, und, und, und, und, und, und, und, und, und, und,
  und, und, und, und, und, und, und, und, und, und, und, und, und, und, und, und, und, und, und, und, und, und, und, und, und, und, und, und, und, und, und, und, und, und, und, und, und, und,
  und, und, und, und, und, und, und, und, und, und, und, und, und, und, und, und, und, und, und, und, und, und, und, und, und, und, und, und, und, und, und, und, und, und, und, und, und, und,
  und, und, und, und, und, und, und, und, und, und, und, und, und, und, und, und, und, und, und, und, und, und, und, und, und, und, und, und, und, und, und, und, und, und, und, und, und, und,
  und, und, und, und, und, und, und, und, und, und, und, und, und, und] [some [Sg.c (fI d.c8.c4.1), Sg.c (fI d.c8.c4.2.1), Sg.c (fI d.c8.c4.2.2.1),
  Sg.c (fI d.c8.c4.2.2.2.1), Sg.c (fI d.c16.1), Sg.c (fI d.c16.2.1),
  Sg.c (CV.sl 2 (Off.x 0 0 9) (Sz.s d.c16.2.2.1) 9 d.c16.2.2.2.1), Sg.c (fI d.c16.c4.1)],
  some [Sg.c (fI d.c16.c4.2.1), Sg.c (CV.sl 3 (Off.x 0 d.c16.c4.2.2.1 9) (Sz.s d.c16.c4.2.2.2.1) 9 d.c16.c8.1),
  Sg.c (fI d.c16.c8.2.1), Sg.c (fI d.c16.c8.2.2.1), Sg.c (fI d.c16.c8.2.2.2.1),
  Sg.c (fI d.c16.c8.c4.1), Sg.c (fI d.c16.c8.c4.2.1),
  Sg.c (fI d.c16.c8.c4.2.2.1)], some [Sg.a (Sz.s d.c16.c8.c4.2.2.2.1) [kI d.c16.c16.1,
  kI d.c16.c16.2.1, kI d.c16.c16.2.2.1,
  kI d.c16.c16.2.2.2.1, kI d.c16.c16.c4.1,
  kI d.c16.c16.c4.2.1, kI d.c16.c16.c4.2.2.1,
  kI d.c16.c16.c4.2.2.2.1, kI d.c16.c16.c8.1]],
  some [Sg.a (Sz.s d.c16.c16.c8.2.1) [kI d.c16.c16.c8.2.2.1,
  kI d.c16.c16.c8.2.2.2.1, kI d.c16.c16.c8.c4.1,
  kI d.c16.c16.c8.c4.2.1, kI d.c16.c16.c8.c4.2.2.1,
  kI d.c16.c16.c8.c4.2.2.2.1, kI d.c16.c16.c16.1,
  kI d.c16.c16.c16.2.1, kI d.c16.c16.c16.2.2]]] [])) (Sum.elim (fun d => K (AX.ret) (St.mk [und,
  und, und, und, AV.r (RV.c (CV.f (FV.b false))), und, und, und, und, und, und, und, und, und, und, und, und, und, und, und, und, und, und, und, und, und, und, und, und, und, und, und, und, und, und, und,
  und, und, und, und, und, und, und, und, und, und, und, und, und, und, und, und, und, und, und, und, und, und, und, und, und, und, und, und, und, und, und, und, und, und, und, und, und, und,
  und, und, und, und, und, und, und, und, und, und, und, und, und, und, und, und, und, und, und, und, und, und, und, und, und, und, und, und, und, und, und, und, und, und, und, und, und, und,
  und, und, und, und, und, und, und, und, und, und, und, und, und, und, und, und, und, und, und, und, und, und, und, und, und, und, und, und, und, und, und, und, und, und, und, und, und, und,
  und, und, und, und, und, und, und, und, und, und, und, und, und, und, und, und, und, und, und, und, und, und, und, und, und, und, und, und, und, und, und, und, und, und, und, und, und, und,
  und, und, und, und, und, und, und, und, und, und, und, und, und, und, und, und, und, und, und, und, und, und, und, und] [] [])) (fun d => K (AX.ex 0) (St.mk [und, AV.r (RV.c (CV.fs d.1 10 [kI d.2.1, kI d.2.2.1,
  kI d.2.2.2.1, kI d.c4.1, kI d.c4.2.1, kI d.c4.2.2.1, kI d.c4.2.2.2.1, kI d.c8.1, kI d.c8.2.1,
  kI d.c8.2.2.1])), und, und, und, AV.r (RV.c (CV.ptr 0 (Off.k 0) 8)), und, AV.r (RV.c (CV.ptr 1 (Off.k 0) 8)), AV.r (RV.c (fI d.c8.2.2.2.1)), und, und, und, und, und,
  und, und, und, und, und, und, und, und, und, und, und, und, und, und, und, und, und, AV.tup [], und, und, und, und, und, und, und, und, und, AV.tup [], und, und, AV.r (RV.c (fI d.c8.2.2.2.1)),
  AV.r (RV.c (CV.fs d.1 10 [kI d.2.1, kI d.2.2.1, kI d.2.2.2.1, kI d.c4.1, kI d.c4.2.1, kI d.c4.2.2.1, kI d.c4.2.2.2.1,
  kI d.c8.1, kI d.c8.2.1, kI d.c8.2.2.1])), AV.r (RV.c (fI d.c8.c4.1)), AV.r (RV.c (CV.f (FV.b d.c8.c4.2.1))),
  und, und, und, und, und, und, und, und, und, und, und, und, und, und, und, und, und, und, und, und, und, und, und, und, und, und, und, und, und, und, und, und, und, und, und, und, und, und,
  und, und, und, und, und, und, und, und, und, und, und, und, und, und, und, und, und, und, und, und, und, und, und, und, und, und, und, und, und, und, und, und, und, und, und, und, und, und,
  und, und, und, und, und, und, und, und, und, und, und, und, und, und, und, und, und, und, und, und, und, und, und, und, und, und, und, und, und, und, und, und, und, und, und, und, und, und,
  und, und, und, und, und, und, und, und, und, und, und, und, und, und, und, und, und, und, und, und, und, und, und, und, und, und, und, und, und, und, und, und, und, und, und, und, und, und,
  und, und, und, und, und, und, und, und, und, und, und, und] [some [Sg.c (fI d.c8.c4.2.2.1), Sg.c (fI d.c8.c4.2.2.2.1), Sg.c (fI d.c16.1),
  Sg.c (fI d.c16.2.1), Sg.c (fI d.c16.2.2.1), Sg.c (fI d.c16.2.2.2.1),
  Sg.c (CV.sl 2 (Off.x 0 0 9) (Sz.s d.c16.c4.1) 9 d.c16.c4.2.1), Sg.c (fI d.c16.c4.2.2.1)],
  some [Sg.c (fI d.c16.c4.2.2.2.1), Sg.c (CV.sl 3 (Off.x 0 d.c16.c8.1 9) (Sz.s d.c16.c8.2.1) 9 d.c16.c8.2.2.1),
  Sg.c (fI d.c16.c8.2.2.2.1), Sg.c (fI d.c16.c8.c4.1), Sg.c (fI d.c16.c8.c4.2.1),
  Sg.c (fI d.c16.c8.c4.2.2.1), Sg.c (fI d.c16.c8.c4.2.2.2.1),
  Sg.c (fI d.c16.c16.1)], some [Sg.a (Sz.s d.c16.c16.2.1) [kI d.c16.c16.2.2.1,
  kI d.c16.c16.2.2.2.1, kI d.c16.c16.c4.1,
  kI d.c16.c16.c4.2.1, kI d.c16.c16.c4.2.2.1,
  kI d.c16.c16.c4.2.2.2.1, kI d.c16.c16.c8.1,
  kI d.c16.c16.c8.2.1, kI d.c16.c16.c8.2.2.1]],
  some [Sg.a (Sz.s d.c16.c16.c8.2.2.2.1) [kI d.c16.c16.c8.c4.1,
  kI d.c16.c16.c8.c4.2.1, kI d.c16.c16.c8.c4.2.2.1,
  kI d.c16.c16.c8.c4.2.2.2.1, kI d.c16.c16.c16.1,
  kI d.c16.c16.c16.2.1, kI d.c16.c16.c16.2.2.1,
  kI d.c16.c16.c16.2.2.2.1, kI d.c16.c16.c16.c4]]] []))) := by kernel_rfl
theorem it_astrolabelaw13_RingPlays_0 {ρ : Type} (x0 : Nat) (x1 : Nat → Int) (x2 : Nat → Int) (x3 : Nat → Int) (x4 : Nat → Int) (x5 : Nat → Int) (x6 : Nat → Int) (x7 : Nat → Int) (x8 : Nat → Int) (x9 : Nat → Int) (x10 : Nat → Int) (x11 : Int) (x12 : Int) (x13 : Int) (x14 : Int) (x15 : Int) (x16 : Int) (x17 : Int) (x18 : Nat) (x19 : Bool) (x20 : Int) (x21 : Int) (x22 : Nat) (x23 : Nat) (x24 : Bool) (x25 : Int) (x26 : Int) (x27 : Int) (x28 : Int) (x29 : Int) (x30 : Int) (x31 : Nat) (x32 : Nat →
  Int) (x33 : Nat → Int) (x34 : Nat → Int) (x35 : Nat → Int) (x36 : Nat → Int) (x37 : Nat → Int) (x38 : Nat → Int) (x39 : Nat → Int) (x40 : Nat → Int) (x41 : Nat) (x42 : Nat → Int) (x43 : Nat → Int) (x44 : Nat → Int) (x45 : Nat → Int) (x46 : Nat → Int) (x47 : Nat → Int) (x48 : Nat → Int) (x49 : Nat → Int) (x50 : Nat →
  Int) (K : AX → St → Option ρ) : iter (fun t => t.head 0 ⟨[⟨10, [0, 2, 3, 4, 6, 9, 10, 11, 12, 13, 14, 15, 16, 17, 18, 19, 20, 21, 22, 23, 24, 25, 26, 27, 28, 29, 30, 32, 33, 34, 35, 36, 37, 38, 39, 40, 42, 43, 44, 45, 46, 47, 48, 49, 50, 51, 52, 53, 54, 55, 56, 57, 58, 59, 60, 61, 63, 64, 65, 66, 67,
  68, 69, 70, 71, 72, 74, 75, 76, 77, 78, 79, 80, 81, 82, 83, 84, 85, 86, 87, 88, 89, 90, 91, 92, 93, 94, 95, 96, 97, 98, 99, 100, 101, 102, 103, 104, 105, 106, 107, 108, 109, 110, 111, 112, 113, 114, 115, 116, 117, 118, 119, 120, 121, 122, 123, 124, 125, 126, 127, 128, 129, 130, 131, 132, 133, 134, 135,
  136, 137, 138, 139, 140, 141, 142, 143, 144, 145, 146, 147, 148, 149, 150, 151, 152, 153, 154, 163, 164, 172, 173, 182, 183, 195, 196, 211, 62, 73, 155, 156, 157, 158, 159, 160, 161, 162, 165, 166, 167, 168, 169, 170, 171, 174, 175, 176, 177, 178, 179, 180, 181, 184, 185, 186, 187, 188, 189, 190, 191,
  192, 193, 194, 197, 198, 199, 200, 201, 202, 203, 204, 205, 206, 207, 208, 209, 210], [(0, [])]⟩, ⟨24, [0, 2, 3, 4, 6, 12, 13, 14, 15, 16, 17, 18, 19, 20, 21, 22, 23, 24, 25, 26, 27, 28, 29, 30, 32, 33, 34, 35, 36, 37, 38, 39, 40, 42, 43, 44, 45, 46, 47, 48, 49, 51, 52, 53, 54, 55, 56, 57, 58, 59, 61,
  63, 64, 65, 66, 67, 68, 69, 70, 71, 72, 74, 75, 76, 77, 78, 79, 80, 81, 82, 83, 84, 85, 86, 87, 88, 89, 90, 91, 92, 93, 94, 95, 96, 97, 98, 99, 100, 101, 102, 103, 104, 105, 106, 107, 108, 109, 110, 111, 112, 113, 114, 115, 116, 117, 118, 119, 120, 121, 122, 123, 124, 125, 126, 127, 128, 129, 130, 131,
  132, 133, 134, 135, 136, 137, 138, 139, 140, 141, 142, 143, 144, 145, 146, 147, 148, 149, 150, 151, 152, 153, 154, 163, 164, 172, 173, 182, 183, 195, 196, 211], [(0, [])]⟩], [⟨24, 0, @R_astrolabelaw13_RingPlays_1 (@L_astrolabelaw13_RingPlays_1)⟩, ⟨10, 0, @R_astrolabelaw13_RingPlays_0 (@L_astrolabelaw13_RingPlays_0)⟩],
  [], [⟨⟨29, [0, 2, 3, 4, 6, 9, 10, 11, 12, 13, 14, 15, 16, 17, 18, 19, 20, 21, 22, 23, 24, 25, 26, 27, 28, 29, 30, 32, 33, 34, 35, 36, 37, 38, 39, 40, 42, 43, 44, 45, 46, 47, 48, 49, 51, 52, 53, 54, 55, 56, 57, 58, 59, 61, 63, 64, 65, 66, 67, 68, 69, 70, 71, 72, 74, 75, 76, 77, 78, 79, 80, 81, 82, 83,
  84, 85, 86, 87, 88, 89, 90, 91, 92, 93, 94, 95, 96, 97, 98, 99, 100, 101, 102, 103, 104, 105, 106, 107, 108, 109, 110, 111, 112, 113, 114, 115, 116, 117, 118, 119, 120, 121, 122, 123, 124, 125, 126, 127, 128, 129, 130, 131, 132, 133, 134, 135, 136, 137, 138, 139, 140, 141, 142, 143, 144, 145, 146, 147,
  148, 149, 150, 151, 152, 153, 154, 163, 164, 172, 173, 182, 183, 195, 196, 211, 62, 73], [(0, [])]⟩, ⟨29, 0, @R_astrolabelaw13_RingPlays_2 (@L_astrolabelaw13_RingPlays_2)⟩⟩], (some ⟨0, [0, 1, 2, 3, 5, 6, 7, 8, 9, 10, 11, 12, 13, 14, 15, 16, 17, 18, 19, 20, 21, 22, 23, 24, 25, 26, 27, 28, 29, 30, 31,
  32, 33, 34, 35, 36, 37, 38, 39, 40, 41, 42, 43, 44, 45, 46, 47, 48, 49, 50, 51, 52, 53, 54, 55, 56, 57, 58, 59, 60, 61, 62, 63, 64, 65, 66, 67, 68, 69, 70, 71, 72, 73, 74, 75, 76, 77, 78, 79, 80, 81, 82, 83, 84, 85, 86, 87, 88, 89, 90, 91, 92, 93, 94, 95, 96, 97, 98, 99, 100, 101, 102, 103, 104, 105,
  106, 107, 108, 109, 110, 111, 112, 113, 114, 115, 116, 117, 118, 119, 120, 121, 122, 123, 124, 125, 126, 127, 128, 129, 130, 131, 132, 133, 134, 135, 136, 137, 138, 139, 140, 141, 142, 143, 144, 145, 146, 147, 148, 149, 150, 151, 152, 153, 154, 155, 156, 157, 158, 159, 160, 161, 162, 163, 164, 165, 166,
  167, 168, 169, 170, 171, 172, 173, 174, 175, 176, 177, 178, 179, 180, 181, 182, 183, 184, 185, 186, 187, 188, 189, 190, 191, 192, 193, 194, 195, 196, 197, 198, 199, 200, 201, 202, 203, 204, 205, 206, 207, 208, 209, 210, 211], []⟩)⟩ (loopIn Try.prog 4 10)) (runC Try.prog (envOf [(15, F_astrolabelaw13_awake f_astrolabelaw13_awake),
  (16, F_ring_New f_ring_New), (17, F___ring_Buffer__Put f___ring_Buffer__Put), (21, F_astrolaberef13_Put f_astrolaberef13_Put), (22, F___ring_Buffer__Pop f___ring_Buffer__Pop), (23, F_astrolaberef13_Pop f_astrolaberef13_Pop), (24, F___ring_Buffer__Spoilt f___ring_Buffer__Spoilt),
  (25, F_astrolaberef13_Spoilt f_astrolaberef13_Spoilt), (18, F___ring_Buffer__Peek f___ring_Buffer__Peek), (26, F___ring_Buffer__Len f___ring_Buffer__Len), (19, F___ring_Buffer__Horizon f___ring_Buffer__Horizon), (27, F__ring_Counts__Total f__ring_Counts__Total), (20, F_astrolaberef13_New f_astrolaberef13_New)]) ⟨[⟨10,
  [0, 2, 3, 4, 6, 9, 10, 11, 12, 13, 14, 15, 16, 17, 18, 19, 20, 21, 22, 23, 24, 25, 26, 27, 28, 29, 30, 32, 33, 34, 35, 36, 37, 38, 39, 40, 42, 43, 44, 45, 46, 47, 48, 49, 50, 51, 52, 53, 54, 55, 56, 57, 58, 59, 60, 61, 63, 64, 65, 66, 67, 68, 69, 70, 71, 72, 74, 75, 76, 77, 78, 79, 80, 81, 82, 83, 84,
  85, 86, 87, 88, 89, 90, 91, 92, 93, 94, 95, 96, 97, 98, 99, 100, 101, 102, 103, 104, 105, 106, 107, 108, 109, 110, 111, 112, 113, 114, 115, 116, 117, 118, 119, 120, 121, 122, 123, 124, 125, 126, 127, 128, 129, 130, 131, 132, 133, 134, 135, 136, 137, 138, 139, 140, 141, 142, 143, 144, 145, 146, 147, 148,
  149, 150, 151, 152, 153, 154, 163, 164, 172, 173, 182, 183, 195, 196, 211, 62, 73, 155, 156, 157, 158, 159, 160, 161, 162, 165, 166, 167, 168, 169, 170, 171, 174, 175, 176, 177, 178, 179, 180, 181, 184, 185, 186, 187, 188, 189, 190, 191, 192, 193, 194, 197, 198, 199, 200, 201, 202, 203, 204, 205, 206,
  207, 208, 209, 210], [(0, [])]⟩, ⟨24, [0, 2, 3, 4, 6, 12, 13, 14, 15, 16, 17, 18, 19, 20, 21, 22, 23, 24, 25, 26, 27, 28, 29, 30, 32, 33, 34, 35, 36, 37, 38, 39, 40, 42, 43, 44, 45, 46, 47, 48, 49, 51, 52, 53, 54, 55, 56, 57, 58, 59, 61, 63, 64, 65, 66, 67, 68, 69, 70, 71, 72, 74, 75, 76, 77, 78, 79,
  80, 81, 82, 83, 84, 85, 86, 87, 88, 89, 90, 91, 92, 93, 94, 95, 96, 97, 98, 99, 100, 101, 102, 103, 104, 105, 106, 107, 108, 109, 110, 111, 112, 113, 114, 115, 116, 117, 118, 119, 120, 121, 122, 123, 124, 125, 126, 127, 128, 129, 130, 131, 132, 133, 134, 135, 136, 137, 138, 139, 140, 141, 142, 143, 144,
  145, 146, 147, 148, 149, 150, 151, 152, 153, 154, 163, 164, 172, 173, 182, 183, 195, 196, 211], [(0, [])]⟩], [⟨24, 0, @R_astrolabelaw13_RingPlays_1 (@L_astrolabelaw13_RingPlays_1)⟩, ⟨10, 0, @R_astrolabelaw13_RingPlays_0 (@L_astrolabelaw13_RingPlays_0)⟩], [], [⟨⟨29, [0, 2, 3, 4, 6, 9, 10, 11, 12, 13,
  14, 15, 16, 17, 18, 19, 20, 21, 22, 23, 24, 25, 26, 27, 28, 29, 30, 32, 33, 34, 35, 36, 37, 38, 39, 40, 42, 43, 44, 45, 46, 47, 48, 49, 51, 52, 53, 54, 55, 56, 57, 58, 59, 61, 63, 64, 65, 66, 67, 68, 69, 70, 71, 72, 74, 75, 76, 77, 78, 79, 80, 81, 82, 83, 84, 85, 86, 87, 88, 89, 90, 91, 92, 93, 94, 95,
  96, 97, 98, 99, 100, 101, 102, 103, 104, 105, 106, 107, 108, 109, 110, 111, 112, 113, 114, 115, 116, 117, 118, 119, 120, 121, 122, 123, 124, 125, 126, 127, 128, 129, 130, 131, 132, 133, 134, 135, 136, 137, 138, 139, 140, 141, 142, 143, 144, 145, 146, 147, 148, 149, 150, 151, 152, 153, 154, 163, 164,
  172, 173, 182, 183, 195, 196, 211, 62, 73], [(0, [])]⟩, ⟨29, 0, @R_astrolabelaw13_RingPlays_2 (@L_astrolabelaw13_RingPlays_2)⟩⟩], (some ⟨0, [0, 1, 2, 3, 5, 6, 7, 8, 9, 10, 11, 12, 13, 14, 15, 16, 17, 18, 19, 20, 21, 22, 23, 24, 25, 26, 27, 28, 29, 30, 31, 32, 33, 34, 35, 36, 37, 38, 39, 40, 41, 42, 43,
  44, 45, 46, 47, 48, 49, 50, 51, 52, 53, 54, 55, 56, 57, 58, 59, 60, 61, 62, 63, 64, 65, 66, 67, 68, 69, 70, 71, 72, 73, 74, 75, 76, 77, 78, 79, 80, 81, 82, 83, 84, 85, 86, 87, 88, 89, 90, 91, 92, 93, 94, 95, 96, 97, 98, 99, 100, 101, 102, 103, 104, 105, 106, 107, 108, 109, 110, 111, 112, 113, 114, 115,
  116, 117, 118, 119, 120, 121, 122, 123, 124, 125, 126, 127, 128, 129, 130, 131, 132, 133, 134, 135, 136, 137, 138, 139, 140, 141, 142, 143, 144, 145, 146, 147, 148, 149, 150, 151, 152, 153, 154, 155, 156, 157, 158, 159, 160, 161, 162, 163, 164, 165, 166, 167, 168, 169, 170, 171, 172, 173, 174, 175, 176,
  177, 178, 179, 180, 181, 182, 183, 184, 185, 186, 187, 188, 189, 190, 191, 192, 193, 194, 195, 196, 197, 198, 199, 200, 201, 202, 203, 204, 205, 206, 207, 208, 209, 210, 211], []⟩)⟩ (tmpsOf Try.prog 4) 0 200 (loopIn Try.prog 4 10)) K 200 (St.mk [und, AV.r (RV.c (CV.fs x0 10 [kI x1,
  kI x2, kI x3, kI x4, kI x5, kI x6, kI x7, kI x8, kI x9, kI x10])), und, und, und, AV.r (RV.c (CV.ptr 0 (Off.k 0) 8)), und, AV.r (RV.c (CV.ptr 1 (Off.k 0) 8)),
  AV.r (RV.c (fI x11)), und, und, und, und, und, und, und, und, und, und, und, und, und, und, und, und, und, und, und, und, und, und, AV.tup [], und, und, und, und, und, und, und, und, und,
  AV.tup [], und, und, und, und, und, und, und, und, und, und, und, und, und, und, und, und, und, und, und, und, und, und, und, und, und, und, und, und, und, und, und, und, und, und, und, und, und,
  und, und, und, und, und, und, und, und, und, und, und, und, und, und, und, und, und, und, und, und, und, und, und, und, und, und, und, und, und, und, und, und, und, und, und, und, und, und,
  und, und, und, und, und, und, und, und, und, und, und, und, und, und, und, und, und, und, und, und, und, und, und, und, und, und, und, und, und, und, und, und, und, und, und, und, und, und,
  und, und, und, und, und, und, und, und, und, und, und, und, und, und, und, und, und, und, und, und, und, und, und, und, und, und, und, und, und, und, und, und, und, und, und, und, und, und,
  und, und, und, und, und, und, und, und, und, und, und, und, und, und, und, und, und, und, und] [some [Sg.c (fI x12), Sg.c (fI x13), Sg.c (fI x14), Sg.c (fI x15),
  Sg.c (fI x16), Sg.c (fI x17), Sg.c (CV.sl 2 (Off.x 0 0 9) (Sz.s x18) 9 x19), Sg.c (fI x20)], some [Sg.c (fI x21), Sg.c (CV.sl 3 (Off.x 0 x22 9) (Sz.s x23) 9 x24), Sg.c (fI x25), Sg.c (fI x26),
  Sg.c (fI x27), Sg.c (fI x28), Sg.c (fI x29), Sg.c (fI x30)], some [Sg.a (Sz.s x31) [kI x32, kI x33, kI x34, kI x35, kI x36, kI x37,
  kI x38, kI x39, kI x40]], some [Sg.a (Sz.s x41) [kI x42, kI x43, kI x44, kI x45, kI x46, kI x47, kI x48, kI x49, kI x50]]] []) = L_astrolabelaw13_RingPlays_0 (x0,
  x1, x2, x3, x4, x5, x6, x7, x8, x9, x10, x11, x12, x13, x14, x15, x16, x17, x18, x19, x20, x21, x22, x23, x24, x25, x26, x27, x28, x29, x30, x31, x32, x33, x34, x35, x36, x37, x38, x39, x40, x41, x42, x43, x44, x45, x46, x47, x48, x49, x50) (Sum.elim (fun d => K (AX.ret) (St.mk [und, und, und,
  und, AV.r (RV.c (CV.f (FV.b false))), und, und, und, und, und, und, und, und, und, und, und, und, und, und, und, und, und, und, und, und, und, und, und, und, und, und, und, und, und, und, und, und, und,
  und, und, und, und, und, und, und, und, und, und, und, und, und, und, und, und, und, und, und, und, und, und, und, und, und, und, und, und, und, und, und, und, und, und, und, und, und, und,
  und, und, und, und, und, und, und, und, und, und, und, und, und, und, und, und, und, und, und, und, und, und, und, und, und, und, und, und, und, und, und, und, und, und, und, und, und, und,
  und, und, und, und, und, und, und, und, und, und, und, und, und, und, und, und, und, und, und, und, und, und, und, und, und, und, und, und, und, und, und, und, und, und, und, und, und, und,
  und, und, und, und, und, und, und, und, und, und, und, und, und, und, und, und, und, und, und, und, und, und, und, und, und, und, und, und, und, und, und, und, und, und, und, und, und, und,
  und, und, und, und, und, und, und, und, und, und, und, und, und, und, und, und, und, und, und, und, und, und] [] [])) (fun d => K (AX.ex 0) (St.mk [und, AV.r (RV.c (CV.fs d.1 10 [kI d.2.1, kI d.2.2.1,
  kI d.2.2.2.1, kI d.c4.1, kI d.c4.2.1, kI d.c4.2.2.1, kI d.c4.2.2.2.1, kI d.c8.1, kI d.c8.2.1,
  kI d.c8.2.2.1])), und, und, und, AV.r (RV.c (CV.ptr 0 (Off.k 0) 8)), und, AV.r (RV.c (CV.ptr 1 (Off.k 0) 8)), AV.r (RV.c (fI d.c8.2.2.2.1)), und, und, und, und, und,
  und, und, und, und, und, und, und, und, und, und, und, und, und, und, und, und, und, AV.tup [], und, und, und, und, und, und, und, und, und, AV.tup [], und, und, AV.r (RV.c (fI d.c8.2.2.2.1)),
  AV.r (RV.c (CV.fs d.1 10 [kI d.2.1, kI d.2.2.1, kI d.2.2.2.1, kI d.c4.1, kI d.c4.2.1, kI d.c4.2.2.1, kI d.c4.2.2.2.1,
  kI d.c8.1, kI d.c8.2.1, kI d.c8.2.2.1])), AV.r (RV.c (fI d.c8.c4.1)), AV.r (RV.c (CV.f (FV.b d.c8.c4.2.1))),
  und, und, und, und, und, und, und, und, und, und, und, und, und, und, und, und, und, und, und, und, und, und, und, und, und, und, und, und, und, und, und, und, und, und, und, und, und, und,
  und, und, und, und, und, und, und, und, und, und, und, und, und, und, und, und, und, und, und, und, und, und, und, und, und, und, und, und, und, und, und, und, und, und, und, und, und, und,
  und, und, und, und, und, und, und, und, und, und, und, und, und, und, und, und, und, und, und, und, und, und, und, und, und, und, und, und, und, und, und, und, und, und, und, und, und, und,
  und, und, und, und, und, und, und, und, und, und, und, und, und, und, und, und, und, und, und, und, und, und, und, und, und, und, und, und, und, und, und, und, und, und, und, und, und, und,
  und, und, und, und, und, und, und, und, und, und, und, und] [some [Sg.c (fI d.c8.c4.2.2.1), Sg.c (fI d.c8.c4.2.2.2.1), Sg.c (fI d.c16.1),
  Sg.c (fI d.c16.2.1), Sg.c (fI d.c16.2.2.1), Sg.c (fI d.c16.2.2.2.1),
  Sg.c (CV.sl 2 (Off.x 0 0 9) (Sz.s d.c16.c4.1) 9 d.c16.c4.2.1), Sg.c (fI d.c16.c4.2.2.1)],
  some [Sg.c (fI d.c16.c4.2.2.2.1), Sg.c (CV.sl 3 (Off.x 0 d.c16.c8.1 9) (Sz.s d.c16.c8.2.1) 9 d.c16.c8.2.2.1),
  Sg.c (fI d.c16.c8.2.2.2.1), Sg.c (fI d.c16.c8.c4.1), Sg.c (fI d.c16.c8.c4.2.1),
  Sg.c (fI d.c16.c8.c4.2.2.1), Sg.c (fI d.c16.c8.c4.2.2.2.1),
  Sg.c (fI d.c16.c16.1)], some [Sg.a (Sz.s d.c16.c16.2.1) [kI d.c16.c16.2.2.1,
  kI d.c16.c16.2.2.2.1, kI d.c16.c16.c4.1,
  kI d.c16.c16.c4.2.1, kI d.c16.c16.c4.2.2.1,
  kI d.c16.c16.c4.2.2.2.1, kI d.c16.c16.c8.1,
  kI d.c16.c16.c8.2.1, kI d.c16.c16.c8.2.2.1]],
  some [Sg.a (Sz.s d.c16.c16.c8.2.2.2.1) [kI d.c16.c16.c8.c4.1,
  kI d.c16.c16.c8.c4.2.1, kI d.c16.c16.c8.c4.2.2.1,
  kI d.c16.c16.c8.c4.2.2.2.1, kI d.c16.c16.c16.1,
  kI d.c16.c16.c16.2.1, kI d.c16.c16.c16.2.2.1,
  kI d.c16.c16.c16.2.2.2.1, kI d.c16.c16.c16.c4]]] []))) := iter_loopX (emb := fun (d : Nat ×
  NI × NI × NI × NI × NI × NI × NI × NI × NI × NI × Int × Int × Int × Int × Int × Int × Int × Nat × Bool × Int × Int × Nat × Nat × Bool × Int × Int × Int × Int × Int × Int × Nat × NI × NI × (Nat →
  Int) × RGPt44) => St.mk [und, AV.r (RV.c (CV.fs d.1 10 [kI d.2.1, kI d.2.2.1,
  kI d.2.2.2.1, kI d.c4.1, kI d.c4.2.1, kI d.c4.2.2.1, kI d.c4.2.2.2.1, kI d.c8.1, kI d.c8.2.1,
  kI d.c8.2.2.1])), und, und, und, AV.r (RV.c (CV.ptr 0 (Off.k 0) 8)), und, AV.r (RV.c (CV.ptr 1 (Off.k 0) 8)), AV.r (RV.c (fI d.c8.2.2.2.1)), und, und, und, und, und,
  und, und, und, und, und, und, und, und, und, und, und, und, und, und, und, und, und, AV.tup [], und, und, und, und, und, und, und, und, und, AV.tup [], und, und, und, und, und, und, und, und, und,
  und, und, und, und, und, und, und, und, und, und, und, und, und, und, und, und, und, und, und, und, und, und, und, und, und, und, und, und, und, und, und, und, und, und, und, und, und, und,
  und, und, und, und, und, und, und, und, und, und, und, und, und, und, und, und, und, und, und, und, und, und, und, und, und, und, und, und, und, und, und, und, und, und, und, und, und, und,
  und, und, und, und, und, und, und, und, und, und, und, und, und, und, und, und, und, und, und, und, und, und, und, und, und, und, und, und, und, und, und, und, und, und, und, und, und, und,
  und, und, und, und, und, und, und, und, und, und, und, und, und, und, und, und, und, und, und, und, und, und, und, und, und, und, und, und, und, und, und, und, und, und, und, und, und, und,
  und, und, und, und, und, und, und, und, und] [some [Sg.c (fI d.c8.c4.1), Sg.c (fI d.c8.c4.2.1), Sg.c (fI d.c8.c4.2.2.1),
  Sg.c (fI d.c8.c4.2.2.2.1), Sg.c (fI d.c16.1), Sg.c (fI d.c16.2.1),
  Sg.c (CV.sl 2 (Off.x 0 0 9) (Sz.s d.c16.2.2.1) 9 d.c16.2.2.2.1), Sg.c (fI d.c16.c4.1)],
  some [Sg.c (fI d.c16.c4.2.1), Sg.c (CV.sl 3 (Off.x 0 d.c16.c4.2.2.1 9) (Sz.s d.c16.c4.2.2.2.1) 9 d.c16.c8.1),
  Sg.c (fI d.c16.c8.2.1), Sg.c (fI d.c16.c8.2.2.1), Sg.c (fI d.c16.c8.2.2.2.1),
  Sg.c (fI d.c16.c8.c4.1), Sg.c (fI d.c16.c8.c4.2.1),
  Sg.c (fI d.c16.c8.c4.2.2.1)], some [Sg.a (Sz.s d.c16.c8.c4.2.2.2.1) [kI d.c16.c16.1,
  kI d.c16.c16.2.1, kI d.c16.c16.2.2.1,
  kI d.c16.c16.2.2.2.1, kI d.c16.c16.c4.1,
  kI d.c16.c16.c4.2.1, kI d.c16.c16.c4.2.2.1,
  kI d.c16.c16.c4.2.2.2.1, kI d.c16.c16.c8.1]],
  some [Sg.a (Sz.s d.c16.c16.c8.2.1) [kI d.c16.c16.c8.2.2.1,
  kI d.c16.c16.c8.2.2.2.1, kI d.c16.c16.c8.c4.1,
  kI d.c16.c16.c8.c4.2.1, kI d.c16.c16.c8.c4.2.2.1,
  kI d.c16.c16.c8.c4.2.2.2.1, kI d.c16.c16.c16.1,
  kI d.c16.c16.c16.2.1, kI d.c16.c16.c16.2.2]]] []) (step := fun d c x => S_astrolabelaw13_RingPlays_0 f_astrolabelaw13_awake f_ring_New f___ring_Buffer__Put f_astrolaberef13_Put f___ring_Buffer__Pop f_astrolaberef13_Pop f___ring_Buffer__Spoilt f_astrolaberef13_Spoilt f___ring_Buffer__Peek f___ring_Buffer__Len f___ring_Buffer__Horizon f__ring_Counts__Total (@L_astrolabelaw13_RingPlays_1) (@L_astrolabelaw13_RingPlays_2) d.1 d.2.1 d.2.2.1 d.2.2.2.1 d.c4.1 d.c4.2.1 d.c4.2.2.1 d.c4.2.2.2.1 d.c8.1 d.c8.2.1 d.c8.2.2.1 d.c8.2.2.2.1 d.c8.c4.1 d.c8.c4.2.1 d.c8.c4.2.2.1 d.c8.c4.2.2.2.1 d.c16.1 d.c16.2.1 d.c16.2.2.1 d.c16.2.2.2.1 d.c16.c4.1 d.c16.c4.2.1 d.c16.c4.2.2.1 d.c16.c4.2.2.2.1 d.c16.c8.1 d.c16.c8.2.1 d.c16.c8.2.2.1 d.c16.c8.2.2.2.1 d.c16.c8.c4.1 d.c16.c8.c4.2.1 d.c16.c8.c4.2.2.1 d.c16.c8.c4.2.2.2.1 d.c16.c16.1 d.c16.c16.2.1 d.c16.c16.2.2.1 d.c16.c16.2.2.2.1 d.c16.c16.c4.1 d.c16.c16.c4.2.1 d.c16.c16.c4.2.2.1 d.c16.c16.c4.2.2.2.1 d.c16.c16.c8.1 d.c16.c16.c8.2.1 d.c16.c16.c8.2.2.1 d.c16.c16.c8.2.2.2.1 d.c16.c16.c8.c4.1 d.c16.c16.c8.c4.2.1 d.c16.c16.c8.c4.2.2.1 d.c16.c16.c8.c4.2.2.2.1 d.c16.c16.c16.1 d.c16.c16.c16.2.1 d.c16.c16.c16.2.2 c x) (kx := (Sum.elim (fun d => K (AX.ret) (St.mk [und,
  und, und, und, AV.r (RV.c (CV.f (FV.b false))), und, und, und, und, und, und, und, und, und, und, und, und, und, und, und, und, und, und, und, und, und, und, und, und, und, und, und, und, und, und, und,
  und, und, und, und, und, und, und, und, und, und, und, und, und, und, und, und, und, und, und, und, und, und, und, und, und, und, und, und, und, und, und, und, und, und, und, und, und, und,
  und, und, und, und, und, und, und, und, und, und, und, und, und, und, und, und, und, und, und, und, und, und, und, und, und, und, und, und, und, und, und, und, und, und, und, und, und, und,
  und, und, und, und, und, und, und, und, und, und, und, und, und, und, und, und, und, und, und, und, und, und, und, und, und, und, und, und, und, und, und, und, und, und, und, und, und, und,
  und, und, und, und, und, und, und, und, und, und, und, und, und, und, und, und, und, und, und, und, und, und, und, und, und, und, und, und, und, und, und, und, und, und, und, und, und, und,
  und, und, und, und, und, und, und, und, und, und, und, und, und, und, und, und, und, und, und, und, und, und, und, und] [] [])) (fun d => K (AX.ex 0) (St.mk [und, AV.r (RV.c (CV.fs d.1 10 [kI d.2.1, kI d.2.2.1,
  kI d.2.2.2.1, kI d.c4.1, kI d.c4.2.1, kI d.c4.2.2.1, kI d.c4.2.2.2.1, kI d.c8.1, kI d.c8.2.1,
  kI d.c8.2.2.1])), und, und, und, AV.r (RV.c (CV.ptr 0 (Off.k 0) 8)), und, AV.r (RV.c (CV.ptr 1 (Off.k 0) 8)), AV.r (RV.c (fI d.c8.2.2.2.1)), und, und, und, und, und,
  und, und, und, und, und, und, und, und, und, und, und, und, und, und, und, und, und, AV.tup [], und, und, und, und, und, und, und, und, und, AV.tup [], und, und, AV.r (RV.c (fI d.c8.2.2.2.1)),
  AV.r (RV.c (CV.fs d.1 10 [kI d.2.1, kI d.2.2.1, kI d.2.2.2.1, kI d.c4.1, kI d.c4.2.1, kI d.c4.2.2.1, kI d.c4.2.2.2.1,
  kI d.c8.1, kI d.c8.2.1, kI d.c8.2.2.1])), AV.r (RV.c (fI d.c8.c4.1)), AV.r (RV.c (CV.f (FV.b d.c8.c4.2.1))),
  und, und, und, und, und, und, und, und, und, und, und, und, und, und, und, und, und, und, und, und, und, und, und, und, und, und, und, und, und, und, und, und, und, und, und, und, und, und,
  und, und, und, und, und, und, und, und, und, und, und, und, und, und, und, und, und, und, und, und, und, und, und, und, und, und, und, und, und, und, und, und, und, und, und, und, und, und,
  und, und, und, und, und, und, und, und, und, und, und, und, und, und, und, und, und, und, und, und, und, und, und, und, und, und, und, und, und, und, und, und, und, und, und, und, und, und,
  und, und, und, und, und, und, und, und, und, und, und, und, und, und, und, und, und, und, und, und, und, und, und, und, und, und, und, und, und, und, und, und, und, und, und, und, und, und,
  und, und, und, und, und, und, und, und, und, und, und, und] [some [Sg.c (fI d.c8.c4.2.2.1), Sg.c (fI d.c8.c4.2.2.2.1), Sg.c (fI d.c16.1),
  Sg.c (fI d.c16.2.1), Sg.c (fI d.c16.2.2.1), Sg.c (fI d.c16.2.2.2.1),
  Sg.c (CV.sl 2 (Off.x 0 0 9) (Sz.s d.c16.c4.1) 9 d.c16.c4.2.1), Sg.c (fI d.c16.c4.2.2.1)],
  some [Sg.c (fI d.c16.c4.2.2.2.1), Sg.c (CV.sl 3 (Off.x 0 d.c16.c8.1 9) (Sz.s d.c16.c8.2.1) 9 d.c16.c8.2.2.1),
  Sg.c (fI d.c16.c8.2.2.2.1), Sg.c (fI d.c16.c8.c4.1), Sg.c (fI d.c16.c8.c4.2.1),
  Sg.c (fI d.c16.c8.c4.2.2.1), Sg.c (fI d.c16.c8.c4.2.2.2.1),
  Sg.c (fI d.c16.c16.1)], some [Sg.a (Sz.s d.c16.c16.2.1) [kI d.c16.c16.2.2.1,
  kI d.c16.c16.2.2.2.1, kI d.c16.c16.c4.1,
  kI d.c16.c16.c4.2.1, kI d.c16.c16.c4.2.2.1,
  kI d.c16.c16.c4.2.2.2.1, kI d.c16.c16.c8.1,
  kI d.c16.c16.c8.2.1, kI d.c16.c16.c8.2.2.1]],
  some [Sg.a (Sz.s d.c16.c16.c8.2.2.2.1) [kI d.c16.c16.c8.c4.1,
  kI d.c16.c16.c8.c4.2.1, kI d.c16.c16.c8.c4.2.2.1,
  kI d.c16.c16.c8.c4.2.2.2.1, kI d.c16.c16.c16.1,
  kI d.c16.c16.c16.2.1, kI d.c16.c16.c16.2.2.1,
  kI d.c16.c16.c16.2.2.2.1, kI d.c16.c16.c16.c4]]] [])))) (fun d c => ds_astrolabelaw13_RingPlays_0 f_astrolabelaw13_awake f_ring_New f___ring_Buffer__Put f_astrolaberef13_Put f___ring_Buffer__Pop f_astrolaberef13_Pop f___ring_Buffer__Spoilt f_astrolaberef13_Spoilt f___ring_Buffer__Peek f___ring_Buffer__Len f___ring_Buffer__Horizon f__ring_Counts__Total (@L_astrolabelaw13_RingPlays_1) (@L_astrolabelaw13_RingPlays_2) (@L_astrolabelaw13_RingPlays_0) d.1 d.2.1 d.2.2.1 d.2.2.2.1 d.c4.1 d.c4.2.1 d.c4.2.2.1 d.c4.2.2.2.1 d.c8.1 d.c8.2.1 d.c8.2.2.1 d.c8.2.2.2.1 d.c8.c4.1 d.c8.c4.2.1 d.c8.c4.2.2.1 d.c8.c4.2.2.2.1 d.c16.1 d.c16.2.1 d.c16.2.2.1 d.c16.2.2.2.1 d.c16.c4.1 d.c16.c4.2.1 d.c16.c4.2.2.1 d.c16.c4.2.2.2.1 d.c16.c8.1 d.c16.c8.2.1 d.c16.c8.2.2.1 d.c16.c8.2.2.2.1 d.c16.c8.c4.1 d.c16.c8.c4.2.1 d.c16.c8.c4.2.2.1 d.c16.c8.c4.2.2.2.1 d.c16.c16.1 d.c16.c16.2.1 d.c16.c16.2.2.1 d.c16.c16.2.2.2.1 d.c16.c16.c4.1 d.c16.c16.c4.2.1 d.c16.c16.c4.2.2.1 d.c16.c16.c4.2.2.2.1 d.c16.c16.c8.1 d.c16.c16.c8.2.1 d.c16.c16.c8.2.2.1 d.c16.c16.c8.2.2.2.1 d.c16.c16.c8.c4.1 d.c16.c16.c8.c4.2.1 d.c16.c16.c8.c4.2.2.1 d.c16.c16.c8.c4.2.2.2.1 d.c16.c16.c16.1 d.c16.c16.c16.2.1 d.c16.c16.c16.2.2 c K) 200 (x0,
  x1, x2, x3, x4, x5, x6, x7, x8, x9, x10, x11, x12, x13, x14, x15, x16, x17, x18, x19, x20, x21, x22, x23, x24, x25, x26, x27, x28, x29, x30, x31, x32, x33, x34, x35, x36, x37, x38, x39, x40, x41, x42, x43, x44, x45, x46, x47, x48, x49, x50)
theorem so_astrolabelaw13_RingPlays_0 [Amb] : ∀ kk, SumOK Try.prog (envOf [(15, F_astrolabelaw13_awake f_astrolabelaw13_awake), (16, F_ring_New f_ring_New), (17, F___ring_Buffer__Put f___ring_Buffer__Put), (21, F_astrolaberef13_Put f_astrolaberef13_Put), (22, F___ring_Buffer__Pop f___ring_Buffer__Pop),
  (23, F_astrolaberef13_Pop f_astrolaberef13_Pop), (24, F___ring_Buffer__Spoilt f___ring_Buffer__Spoilt), (25, F_astrolaberef13_Spoilt f_astrolaberef13_Spoilt), (18, F___ring_Buffer__Peek f___ring_Buffer__Peek), (26, F___ring_Buffer__Len f___ring_Buffer__Len), (19, F___ring_Buffer__Horizon f___ring_Buffer__Horizon),
  (27, F__ring_Counts__Total f__ring_Counts__Total), (20, F_astrolaberef13_New f_astrolaberef13_New)]) ⟨[⟨10, [0, 2, 3, 4, 6, 9, 10, 11, 12, 13, 14, 15, 16, 17, 18, 19, 20, 21, 22, 23, 24, 25, 26, 27, 28, 29, 30, 32, 33, 34, 35, 36, 37, 38, 39, 40, 42, 43, 44, 45, 46, 47, 48, 49, 50, 51, 52,
  53, 54, 55, 56, 57, 58, 59, 60, 61, 63, 64, 65, 66, 67, 68, 69, 70, 71, 72, 74, 75, 76, 77, 78, 79, 80, 81, 82, 83, 84, 85, 86, 87, 88, 89, 90, 91, 92, 93, 94, 95, 96, 97, 98, 99, 100, 101, 102, 103, 104, 105, 106, 107, 108, 109, 110, 111, 112, 113, 114, 115, 116, 117, 118, 119, 120, 121, 122, 123, 124,
  125, 126, 127, 128, 129, 130, 131, 132, 133, 134, 135, 136, 137, 138, 139, 140, 141, 142, 143, 144, 145, 146, 147, 148, 149, 150, 151, 152, 153, 154, 163, 164, 172, 173, 182, 183, 195, 196, 211, 62, 73, 155, 156, 157, 158, 159, 160, 161, 162, 165, 166, 167, 168, 169, 170, 171, 174, 175, 176, 177, 178,
  179, 180, 181, 184, 185, 186, 187, 188, 189, 190, 191, 192, 193, 194, 197, 198, 199, 200, 201, 202, 203, 204, 205, 206, 207, 208, 209, 210], [(0, [])]⟩, ⟨24, [0, 2, 3, 4, 6, 12, 13, 14, 15, 16, 17, 18, 19, 20, 21, 22, 23, 24, 25, 26, 27, 28, 29, 30, 32, 33, 34, 35, 36, 37, 38, 39, 40, 42, 43, 44, 45,
  46, 47, 48, 49, 51, 52, 53, 54, 55, 56, 57, 58, 59, 61, 63, 64, 65, 66, 67, 68, 69, 70, 71, 72, 74, 75, 76, 77, 78, 79, 80, 81, 82, 83, 84, 85, 86, 87, 88, 89, 90, 91, 92, 93, 94, 95, 96, 97, 98, 99, 100, 101, 102, 103, 104, 105, 106, 107, 108, 109, 110, 111, 112, 113, 114, 115, 116, 117, 118, 119, 120,
  121, 122, 123, 124, 125, 126, 127, 128, 129, 130, 131, 132, 133, 134, 135, 136, 137, 138, 139, 140, 141, 142, 143, 144, 145, 146, 147, 148, 149, 150, 151, 152, 153, 154, 163, 164, 172, 173, 182, 183, 195, 196, 211], [(0, [])]⟩], [⟨24, 0, @R_astrolabelaw13_RingPlays_1 (@L_astrolabelaw13_RingPlays_1)⟩,
  ⟨10, 0, @R_astrolabelaw13_RingPlays_0 (@L_astrolabelaw13_RingPlays_0)⟩], [], [⟨⟨29, [0, 2, 3, 4, 6, 9, 10, 11, 12, 13, 14, 15, 16, 17, 18, 19, 20, 21, 22, 23, 24, 25, 26, 27, 28, 29, 30, 32, 33, 34, 35, 36, 37, 38, 39, 40, 42, 43, 44, 45, 46, 47, 48, 49, 51, 52, 53, 54, 55, 56, 57, 58, 59, 61, 63, 64,
  65, 66, 67, 68, 69, 70, 71, 72, 74, 75, 76, 77, 78, 79, 80, 81, 82, 83, 84, 85, 86, 87, 88, 89, 90, 91, 92, 93, 94, 95, 96, 97, 98, 99, 100, 101, 102, 103, 104, 105, 106, 107, 108, 109, 110, 111, 112, 113, 114, 115, 116, 117, 118, 119, 120, 121, 122, 123, 124, 125, 126, 127, 128, 129, 130, 131, 132,
  133, 134, 135, 136, 137, 138, 139, 140, 141, 142, 143, 144, 145, 146, 147, 148, 149, 150, 151, 152, 153, 154, 163, 164, 172, 173, 182, 183, 195, 196, 211, 62, 73], [(0, [])]⟩, ⟨29, 0, @R_astrolabelaw13_RingPlays_2 (@L_astrolabelaw13_RingPlays_2)⟩⟩], (some ⟨0, [0, 1, 2, 3, 5, 6, 7, 8, 9, 10, 11, 12, 13,
  14, 15, 16, 17, 18, 19, 20, 21, 22, 23, 24, 25, 26, 27, 28, 29, 30, 31, 32, 33, 34, 35, 36, 37, 38, 39, 40, 41, 42, 43, 44, 45, 46, 47, 48, 49, 50, 51, 52, 53, 54, 55, 56, 57, 58, 59, 60, 61, 62, 63, 64, 65, 66, 67, 68, 69, 70, 71, 72, 73, 74, 75, 76, 77, 78, 79, 80, 81, 82, 83, 84, 85, 86, 87, 88, 89,
  90, 91, 92, 93, 94, 95, 96, 97, 98, 99, 100, 101, 102, 103, 104, 105, 106, 107, 108, 109, 110, 111, 112, 113, 114, 115, 116, 117, 118, 119, 120, 121, 122, 123, 124, 125, 126, 127, 128, 129, 130, 131, 132, 133, 134, 135, 136, 137, 138, 139, 140, 141, 142, 143, 144, 145, 146, 147, 148, 149, 150, 151, 152,
  153, 154, 155, 156, 157, 158, 159, 160, 161, 162, 163, 164, 165, 166, 167, 168, 169, 170, 171, 172, 173, 174, 175, 176, 177, 178, 179, 180, 181, 182, 183, 184, 185, 186, 187, 188, 189, 190, 191, 192, 193, 194, 195, 196, 197, 198, 199, 200, 201, 202, 203, 204, 205, 206, 207, 208, 209, 210, 211], []⟩)⟩ (tmpsOf Try.prog 4) kk 200 (loopIn Try.prog 4 10) := SumOK.of (id := 10) (k0 := 0) (run := @R_astrolabelaw13_RingPlays_0 (@L_astrolabelaw13_RingPlays_0)) (by kernel_rfl) fun s K r hr => by
    unfold R_astrolabelaw13_RingPlays_0 at hr
    obtain ⟨b, hb, hr1⟩ := Option.bind_eq_some_iff.1 hr
    have e := ((Q_astrolabelaw13_RingPlays_0).ok s b hb).trans (q_astrolabelaw13_RingPlays_0 b)
    subst e
    exact ⟨200, (it_astrolabelaw13_RingPlays_0 b.1.2.1.1 b.1.2.1.2.2.1 b.1.2.1.2.2.2.1 b.1.2.1.c4.1 b.1.2.1.c4.2.1 b.1.2.1.c4.2.2.1 b.1.2.1.c4.2.2.2.1 b.1.2.1.c8.1 b.1.2.1.c8.2.1 b.1.2.1.c8.2.2.1 b.1.2.1.c8.2.2.2.1 b.1.c8.1 b.2.1.1.1 b.2.1.1.2.1 b.2.1.1.2.2.1 b.2.1.1.2.2.2.1 b.2.1.1.c4.1 b.2.1.1.c4.2.1 b.2.1.1.c4.2.2.1.2.2.1 b.2.1.1.c4.2.2.1.c4 b.2.1.1.c4.2.2.2.1 b.2.1.2.1.1 b.2.1.2.1.2.1.2.1.2.1 b.2.1.2.1.2.1.2.2.1 b.2.1.2.1.2.1.c4 b.2.1.2.1.2.2.1 b.2.1.2.1.2.2.2.1 b.2.1.2.1.c4.1 b.2.1.2.1.c4.2.1 b.2.1.2.1.c4.2.2.1 b.2.1.2.1.c4.2.2.2.1 b.2.1.2.2.1.1.1 b.2.1.2.2.1.1.2.1 b.2.1.2.2.1.1.2.2.1 b.2.1.2.2.1.1.2.2.2.1 b.2.1.2.2.1.1.c4.1 b.2.1.2.2.1.1.c4.2.1 b.2.1.2.2.1.1.c4.2.2.1 b.2.1.2.2.1.1.c4.2.2.2.1 b.2.1.2.2.1.1.c8.1 b.2.1.2.2.1.1.c8.2.1 b.2.1.2.2.2.1.1.1 b.2.1.2.2.2.1.1.2.1 b.2.1.2.2.2.1.1.2.2.1 b.2.1.2.2.2.1.1.2.2.2.1 b.2.1.2.2.2.1.1.c4.1 b.2.1.2.2.2.1.1.c4.2.1 b.2.1.2.2.2.1.1.c4.2.2.1 b.2.1.2.2.2.1.1.c4.2.2.2.1 b.2.1.2.2.2.1.1.c8.1 b.2.1.2.2.2.1.1.c8.2.1 K).trans hr1⟩
def K_astrolabelaw13_RingPlays {ρ : Type} (g_astrolabelaw13_awake : Option Bool) (g_ring_New : Int → Option (Unit ⊕ Int × NI)) (g___ring_Buffer__Put : RGPg8) (g_astrolaberef13_Put : RGPg9) (g___ring_Buffer__Pop : RGPg10) (g_astrolaberef13_Pop : RGPg11) (g___ring_Buffer__Spoilt : RGPg12) (g_astrolaberef13_Spoilt : RGPg13) (g___ring_Buffer__Peek : RGPg14) (g___ring_Buffer__Len : RGPg15) (g___ring_Buffer__Horizon : RGPg15) (g__ring_Counts__Total : Int → Int → Int → Int → Int → Option Int) (l_1 : ∀ {ρ : Type}, (Nat × NI × NI × (Nat →
  Int) × RGPt28) →
  ((Unit ⊕ Nat × NI × NI × NI × NI × NI × NI × NI × NI × NI × NI × Int × Nat × Nat × Int × Nat × NI × NI × NI × NI × NI × NI × NI × NI × (Nat →
  Int) × RGPt29) → Option ρ) → Option ρ) (l_2 : ∀ {ρ : Type}, (Nat × NI × NI × NI × NI × NI × NI × NI × NI × NI × NI × Int × Nat × NI × NI ×
  NI × NI × NI × NI × NI × NI × NI × NI × Bool × Int × Int × Int × Int × Int × Int × Nat × Bool × Int × Int × Nat × Nat × Bool × Int × Int × Int × Int × Int × Int × Nat × NI × NI × NI × NI × (Nat →
  Int) × RGPt21) → ((Unit ⊕ Nat × NI × NI × NI × NI × NI × NI × (Nat →
  Int) × NI × NI × NI × Int × Bool × Nat × NI × NI × NI × NI × NI × NI × NI × NI × NI × NI × Bool × Int × Int × Int × Int × Int × Int × Int × Int × Int × Int × Int × Int × Int × Int × Int ×
  Int × Int × Int × Int × Bool × Int × Nat × Nat × Bool × Int × Bool × Int × Int × Bool × Bool × Bool × Int × Int × Int × Int × Int × Int × Int × Int × Int × Bool × Int × Int × Int × Bool × Int × Nat × Bool × Int × Int × Nat × NI × NI × NI × NI × NI × (Nat →
  Int) × RGPt30 ⊕ Nat × NI × NI × NI × NI × NI × NI × NI × NI × (Nat →
  Int) × NI × Int × Bool × Nat × NI × NI × NI × NI × NI × NI × NI × NI × NI × NI × Bool × Int × Int × Int × Int × Int × Int × Int × Int × Int × Int × Int × Int × Int × Int × Int × Int × Int × Int × Int ×
  Bool × Int × Nat × Nat × Bool × Int × Bool × Int × Int × Bool × Bool × Bool × Int × Int × Int × Bool × Int × Nat × Bool × Int × Int × Nat × NI × NI × NI × NI × NI × NI × NI × NI × NI × Nat × NI × NI × (Nat →
  Int) × NI × NI × NI × NI × NI × NI) → Option ρ) → Option ρ) (l_0 : ∀ {ρ : Type}, (RGPt37) → ((Unit ⊕ RGPt42) →
  Option ρ) → Option ρ) (x0 : Int) (x1 : Nat) (x2 : Nat → Int) (x3 : Nat → Int) (x4 : Nat → Int) (x5 : Nat → Int) (x6 : Nat → Int) (x7 : Nat → Int) (x8 : Nat → Int) (x9 : Nat → Int) (x10 : Nat → Int) (x11 : Nat → Int) (k : (Bool) → Option ρ) : Option ρ := Option.bind g_astrolabelaw13_awake fun (d : Bool) => bif !d then
  k false else Option.bind (g_ring_New x0) fun (d : Unit ⊕ Int × NI) => bif match d with | Sum.inl val => true | Sum.inr val => false then Option.bind (match d with | Sum.inl a => some a | Sum.inr val => none) fun (d : Unit) => bif decide (x0 < 1) then k true else bif decide (x0 > 64) then k true else
  k false else Option.bind (match d with | Sum.inr b => some b | Sum.inl val => none) fun (d : Int × NI) => bif decide (x0 < 1) then k false else bif decide (x0 > 64) then k false else bif decide (Int.ofNat x1 > 150) then k true else l_0 (x1, x2, x3, x4, x5, x6, x7, x8, x9, x10, x11, 0, 0, 0,
  0, 0, 0, d.1, 0, true, -9223372036854775808, x0, 0, 0, true, -9223372036854775808, 0, 0, 0, 0, 0, 0, d.2, d.2, d.2, d.2, d.2, d.2, d.2, d.2, d.2, 0, fun (x : Nat) => 0, fun (x : Nat) => 0, fun (x : Nat) => 0, fun (x : Nat) => 0, fun (x : Nat) => 0, fun (x : Nat) => 0, fun (x : Nat) => 0, fun (x : Nat) => 0,
  fun (x : Nat) => 0) (Sum.elim (fun (d : Unit) => k false) fun (d : RGPt42) => k true)
def f_astrolabelaw13_RingPlays (x0 : Int) (x1 : Nat) (x2 : Nat → Int) (x3 : Nat → Int) (x4 : Nat → Int) (x5 : Nat → Int) (x6 : Nat → Int) (x7 : Nat → Int) (x8 : Nat → Int) (x9 : Nat → Int) (x10 : Nat → Int) (x11 : Nat → Int) : Option (Bool) := K_astrolabelaw13_RingPlays f_astrolabelaw13_awake f_ring_New f___ring_Buffer__Put f_astrolaberef13_Put f___ring_Buffer__Pop f_astrolaberef13_Pop f___ring_Buffer__Spoilt f_astrolaberef13_Spoilt f___ring_Buffer__Peek f___ring_Buffer__Len f___ring_Buffer__Horizon f__ring_Counts__Total (@L_astrolabelaw13_RingPlays_1) (@L_astrolabelaw13_RingPlays_2) (@L_astrolabelaw13_RingPlays_0) x0 x1 x2 x3 x4 x5 x6 x7 x8 x9 x10 x11 some
section
open Go.Ab.Rdr
def QA_astrolabelaw13_RingPlays := ((pair (cons (ar (rc (cf (fi .i64 hole)))) (cons (ar (rc (cfs hole (nat 10) (cons (ki .i64 hole) (cons (ki .i64 hole) (cons (ki .i64 hole) (cons (ki .i64 hole) (cons (ki .i64 hole) (cons (ki .i64 hole) (cons (ki .i64 hole) (cons (ki .i64 hole) (cons (ki .i64 hole) (cons (ki .i64 hole) nil))))))))))))) nil)) nil) : Rdr (List AV × List Blk) _)
end
def F_astrolabelaw13_RingPlays (f : (Int) → (Nat) → NI → NI → NI → NI → NI → NI → NI → NI → NI → NI → Option (Bool)) : Sem1 := fun args h => match (QA_astrolabelaw13_RingPlays).rd (args, h) with
  | some b => .opt (f b.1.1 b.1.2.1.1 b.1.2.1.2.2.1 b.1.2.1.2.2.2.1 b.1.2.1.c4.1 b.1.2.1.c4.2.1 b.1.2.1.c4.2.2.1 b.1.2.1.c4.2.2.2.1 b.1.2.1.c8.1 b.1.2.1.c8.2.1 b.1.2.1.c8.2.2.1 b.1.2.1.c8.2.2.2.1) fun (d : Bool) => .leaf (Res.mk (AV.r (RV.c (CV.f (FV.b d)))) [] [])
  | none => .fail
theorem d_astrolabelaw13_RingPlays (g_astrolabelaw13_awake : Option Bool) (g_ring_New : Int → Option (Unit ⊕ Int × NI)) (g___ring_Buffer__Put : RGPg46) (g_astrolaberef13_Put : RGPg47) (g___ring_Buffer__Pop : RGPg48) (g_astrolaberef13_Pop : RGPg49) (g___ring_Buffer__Spoilt : RGPg50) (g_astrolaberef13_Spoilt : RGPg13) (g___ring_Buffer__Peek : RGPg14) (g___ring_Buffer__Len : RGPg15) (g___ring_Buffer__Horizon : RGPg15) (g__ring_Counts__Total : Int → Int → Int → Int → Int → Option Int) (l_1 : ∀ {ρ : Type}, (RGPt39) → ((Unit ⊕ Nat ×
  NI × NI × NI × NI × NI × NI × NI × NI × NI × NI × Int × Nat × Nat × Int × Nat × NI × NI × NI × NI × NI × NI × NI × NI × NI × (Nat →
  Int) × RGPt45) → Option ρ) → Option ρ) (l_2 : ∀ {ρ : Type}, (Nat × NI × NI × NI × NI × NI × NI × NI × NI × NI × NI × Int × Nat × NI × NI × NI ×
  NI × NI × NI × NI × NI × NI × NI × Bool × Int × Int × Int × Int × Int × Int × Nat × Bool × Int × Int × Nat × Nat × Bool × Int × Int × Int × Int × Int × Int × Nat × NI × NI × NI × NI × NI × (Nat →
  Int) × RGPt30) → ((Unit ⊕ Nat × NI × NI × NI × NI × NI × NI × NI × (Nat →
  Int) × NI × NI × Int × Bool × Nat × NI × NI × NI × NI × NI × NI × NI × NI × NI × NI × Bool × Int × Int × Int × Int × Int × Int × Int × Int × Int × Int × Int × Int × Int × Int × Int × Int × Int ×
  Int × Int × Bool × Int × Nat × Nat × Bool × Int × Bool × Int × Int × Bool × Bool × Bool × Int × Int × Int × Int × Int × Int × Int × Int × Int × Bool × Int × Int × Int × Bool × Int × Nat × Bool × Int × Int × Nat × NI × NI × NI × NI × NI × NI × (Nat →
  Int) × RGPt17 ⊕ Nat × NI × NI × NI × NI × NI × NI × NI × NI × NI × (Nat →
  Int) × Int × Bool × Nat × NI × NI × NI × NI × NI × NI × NI × NI × NI × NI × Bool × Int × Int × Int × Int × Int × Int × Int × Int × Int × Int × Int × Int × Int × Int × Int × Int × Int × Int × Int × Bool × Int × Nat ×
  Nat × Bool × Int × Bool × Int × Int × Bool × Bool × Bool × Int × Int × Int × Bool × Int × Nat × Bool × Int × Int × Nat × NI × NI × NI × NI × NI × NI × NI × NI × NI × Nat × NI × NI × NI × (Nat →
  Int) × NI × NI × NI × NI × NI) → Option ρ) → Option ρ) (l_0 : ∀ {ρ : Type}, (Nat × NI × NI × NI × NI × NI × NI × NI × NI × NI × NI × Int × Int × Int × Int × Int × Int ×
  Int × Nat × Bool × Int × Int × Nat × Nat × Bool × Int × Int × Int × Int × Int × Int × Nat × NI × NI × NI × NI × NI × NI × NI × NI × NI × Nat × NI × NI × NI × NI × NI × (Nat →
  Int) × NI × NI × NI) → ((Unit ⊕ RGPt42) →
  Option ρ) → Option ρ) (x0 : Int) (x1 : Nat) (x2 : Nat → Int) (x3 : Nat → Int) (x4 : Nat → Int) (x5 : Nat → Int) (x6 : Nat → Int) (x7 : Nat → Int) (x8 : Nat → Int) (x9 : Nat → Int) (x10 : Nat → Int) (x11 : Nat → Int) : den Try.prog (envOf [(15, F_astrolabelaw13_awake g_astrolabelaw13_awake), (16,
  F_ring_New g_ring_New), (17, F___ring_Buffer__Put g___ring_Buffer__Put), (21, F_astrolaberef13_Put g_astrolaberef13_Put), (22, F___ring_Buffer__Pop g___ring_Buffer__Pop), (23, F_astrolaberef13_Pop g_astrolaberef13_Pop), (24, F___ring_Buffer__Spoilt g___ring_Buffer__Spoilt), (25,
  F_astrolaberef13_Spoilt g_astrolaberef13_Spoilt), (18, F___ring_Buffer__Peek g___ring_Buffer__Peek), (26, F___ring_Buffer__Len g___ring_Buffer__Len), (19, F___ring_Buffer__Horizon g___ring_Buffer__Horizon), (27, F__ring_Counts__Total g__ring_Counts__Total), (20, F_astrolaberef13_New f_astrolaberef13_New)]) ⟨[⟨10,
  [0, 2, 3, 4, 6, 9, 10, 11, 12, 13, 14, 15, 16, 17, 18, 19, 20, 21, 22, 23, 24, 25, 26, 27, 28, 29, 30, 32, 33, 34, 35, 36, 37, 38, 39, 40, 42, 43, 44, 45, 46, 47, 48, 49, 50, 51, 52, 53, 54, 55, 56, 57, 58, 59, 60, 61, 63, 64, 65, 66, 67, 68, 69, 70, 71, 72, 74, 75, 76, 77, 78, 79, 80, 81, 82, 83, 84,
  85, 86, 87, 88, 89, 90, 91, 92, 93, 94, 95, 96, 97, 98, 99, 100, 101, 102, 103, 104, 105, 106, 107, 108, 109, 110, 111, 112, 113, 114, 115, 116, 117, 118, 119, 120, 121, 122, 123, 124, 125, 126, 127, 128, 129, 130, 131, 132, 133, 134, 135, 136, 137, 138, 139, 140, 141, 142, 143, 144, 145, 146, 147, 148,
  149, 150, 151, 152, 153, 154, 163, 164, 172, 173, 182, 183, 195, 196, 211, 62, 73, 155, 156, 157, 158, 159, 160, 161, 162, 165, 166, 167, 168, 169, 170, 171, 174, 175, 176, 177, 178, 179, 180, 181, 184, 185, 186, 187, 188, 189, 190, 191, 192, 193, 194, 197, 198, 199, 200, 201, 202, 203, 204, 205, 206,
  207, 208, 209, 210], [(0, [])]⟩, ⟨24, [0, 2, 3, 4, 6, 12, 13, 14, 15, 16, 17, 18, 19, 20, 21, 22, 23, 24, 25, 26, 27, 28, 29, 30, 32, 33, 34, 35, 36, 37, 38, 39, 40, 42, 43, 44, 45, 46, 47, 48, 49, 51, 52, 53, 54, 55, 56, 57, 58, 59, 61, 63, 64, 65, 66, 67, 68, 69, 70, 71, 72, 74, 75, 76, 77, 78, 79,
  80, 81, 82, 83, 84, 85, 86, 87, 88, 89, 90, 91, 92, 93, 94, 95, 96, 97, 98, 99, 100, 101, 102, 103, 104, 105, 106, 107, 108, 109, 110, 111, 112, 113, 114, 115, 116, 117, 118, 119, 120, 121, 122, 123, 124, 125, 126, 127, 128, 129, 130, 131, 132, 133, 134, 135, 136, 137, 138, 139, 140, 141, 142, 143, 144,
  145, 146, 147, 148, 149, 150, 151, 152, 153, 154, 163, 164, 172, 173, 182, 183, 195, 196, 211], [(0, [])]⟩], [⟨24, 0, @R_astrolabelaw13_RingPlays_1 (@l_1)⟩, ⟨10, 0, @R_astrolabelaw13_RingPlays_0 (@l_0)⟩], [], [⟨⟨29, [0, 2, 3, 4, 6, 9, 10, 11, 12, 13, 14, 15, 16, 17, 18, 19, 20, 21, 22, 23, 24, 25, 26,
  27, 28, 29, 30, 32, 33, 34, 35, 36, 37, 38, 39, 40, 42, 43, 44, 45, 46, 47, 48, 49, 51, 52, 53, 54, 55, 56, 57, 58, 59, 61, 63, 64, 65, 66, 67, 68, 69, 70, 71, 72, 74, 75, 76, 77, 78, 79, 80, 81, 82, 83, 84, 85, 86, 87, 88, 89, 90, 91, 92, 93, 94, 95, 96, 97, 98, 99, 100, 101, 102, 103, 104, 105, 106,
  107, 108, 109, 110, 111, 112, 113, 114, 115, 116, 117, 118, 119, 120, 121, 122, 123, 124, 125, 126, 127, 128, 129, 130, 131, 132, 133, 134, 135, 136, 137, 138, 139, 140, 141, 142, 143, 144, 145, 146, 147, 148, 149, 150, 151, 152, 153, 154, 163, 164, 172, 173, 182, 183, 195, 196, 211, 62, 73], [(0, [])]⟩,
  ⟨29, 0, @R_astrolabelaw13_RingPlays_2 (@l_2)⟩⟩], (some ⟨0, [0, 1, 2, 3, 5, 6, 7, 8, 9, 10, 11, 12, 13, 14, 15, 16, 17, 18, 19, 20, 21, 22, 23, 24, 25, 26, 27, 28, 29, 30, 31, 32, 33, 34, 35, 36, 37, 38, 39, 40, 41, 42, 43, 44, 45, 46, 47, 48, 49, 50, 51, 52, 53, 54, 55, 56, 57, 58, 59, 60, 61, 62, 63,
  64, 65, 66, 67, 68, 69, 70, 71, 72, 73, 74, 75, 76, 77, 78, 79, 80, 81, 82, 83, 84, 85, 86, 87, 88, 89, 90, 91, 92, 93, 94, 95, 96, 97, 98, 99, 100, 101, 102, 103, 104, 105, 106, 107, 108, 109, 110, 111, 112, 113, 114, 115, 116, 117, 118, 119, 120, 121, 122, 123, 124, 125, 126, 127, 128, 129, 130, 131,
  132, 133, 134, 135, 136, 137, 138, 139, 140, 141, 142, 143, 144, 145, 146, 147, 148, 149, 150, 151, 152, 153, 154, 155, 156, 157, 158, 159, 160, 161, 162, 163, 164, 165, 166, 167, 168, 169, 170, 171, 172, 173, 174, 175, 176, 177, 178, 179, 180, 181, 182, 183, 184, 185, 186, 187, 188, 189, 190, 191, 192,
  193, 194, 195, 196, 197, 198, 199, 200, 201, 202, 203, 204, 205, 206, 207, 208, 209, 210, 211], []⟩)⟩ 200 4 [.r (.c (.f (.i .i64 x0))), .r (.c (.fs x1 10 [.i .i64 x2, .i .i64 x3, .i .i64 x4, .i .i64 x5, .i .i64 x6, .i .i64 x7, .i .i64 x8, .i .i64 x9, .i .i64 x10, .i .i64 x11]))] [] = K_astrolabelaw13_RingPlays g_astrolabelaw13_awake g_ring_New g___ring_Buffer__Put g_astrolaberef13_Put g___ring_Buffer__Pop g_astrolaberef13_Pop g___ring_Buffer__Spoilt g_astrolaberef13_Spoilt g___ring_Buffer__Peek g___ring_Buffer__Len g___ring_Buffer__Horizon g__ring_Counts__Total (@l_1) (@l_2) (@l_0) x0 x1 x2 x3 x4 x5 x6 x7 x8 x9 x10 x11 (fun (d : Bool) => some (Res.mk (AV.r (RV.c (CV.f (FV.b d)))) [] [])) := by kernel_rfl
theorem m_astrolabelaw13_RingPlays {ρ σ : Type} (q : ρ → Option σ) (g_astrolabelaw13_awake : Option Bool) (g_ring_New : Int → Option (Unit ⊕ Int × NI)) (g___ring_Buffer__Put : RGPg8) (g_astrolaberef13_Put : RGPg53) (g___ring_Buffer__Pop : RGPg54) (g_astrolaberef13_Pop : RGPg11) (g___ring_Buffer__Spoilt : RGPg50) (g_astrolaberef13_Spoilt : RGPg55) (g___ring_Buffer__Peek : RGPg14) (g___ring_Buffer__Len : RGPg15) (g___ring_Buffer__Horizon : RGPg15) (g__ring_Counts__Total : Int → Int → Int → Int → Int → Option Int) (l_1 : ∀ {ρ : Type}, (Nat × NI × (Nat →
  Int) × NI × NI × NI × NI × NI × NI × NI × NI × Int × Nat × Nat × Int × Nat × NI × NI × NI × NI × NI × NI × NI × NI × NI × NI × Bool × Int ×
  Int × Int × Int × Int × Int × Nat × Int × Int × Nat × Nat × Bool × Int × Int × Int × Int × Int × Int × Nat × NI × NI × NI × NI × NI × NI × NI × NI × NI × Nat × NI × NI × NI × NI × (Nat →
  Int) × NI × NI × NI × NI × Nat × NI × NI × NI × NI × NI × NI × NI × NI × NI × Nat × NI × NI × NI × NI × NI × NI × NI × (Nat →
  Int) × NI) → ((Unit ⊕ Nat × NI × NI × NI × NI × NI × NI × NI × NI × NI × NI × Int × Nat × Nat × Int × Nat × NI × NI × NI × NI × NI × NI × NI ×
  NI × NI × NI × Bool × Int × Bool × Int × Int × Int × Int × Int × Int × Nat × Int × Int × Nat × Nat × Bool × Int × Int × Int × Int × Int × Int × Nat × NI × NI × NI × NI × NI × NI × NI × NI × NI ×
  Nat × NI × NI × NI × NI × NI × NI × NI × NI × NI × Nat × NI × NI × NI × NI × NI × NI × NI × NI × NI × Nat × NI × NI × (Nat →
  Int) × NI × NI × NI × NI × NI × NI) → Option ρ) → Option ρ) (l_2 : ∀ {ρ : Type}, (Nat × NI × NI × NI × NI × NI × NI × NI × NI × NI × NI × Int × Nat × (Nat →
  Int) × RGPt51) → ((Unit ⊕ RGPt26 ⊕ RGPt52) → Option ρ) → Option ρ) (l_0 : ∀ {ρ : Type}, (RGPt37) → ((Unit ⊕ Nat × NI × NI × NI × NI × NI × NI × NI × NI × NI × NI × Int × Int × Bool × Int × Int × Int × Int × Int × Int × Nat ×
  Bool × Int × Int × Nat × Nat × Bool × Int × Int × Int × Int × Int × Int × Nat × NI × NI × NI × NI × NI × NI × NI × NI × NI × Nat × NI × NI × NI × NI × NI × NI × (Nat →
  Int) × NI × NI) → Option ρ) → Option ρ) (hl_1 : ∀ {ρ σ : Type} (q : ρ → Option σ) (d : Nat × NI × NI × NI × NI × NI × NI × NI × NI × NI × NI × Int × Nat × Nat × Int × Nat × NI × (Nat →
  Int) × NI × NI × NI × NI × NI × NI × NI × NI × Bool × Int × Int × Int × Int × Int × Int × Nat × Int × Int × Nat × Nat × Bool × Int × Int × Int × Int × Int × Int × Nat × NI × NI × NI × NI × (Nat →
  Int) × NI × NI × NI × NI × Nat × NI × NI × NI × NI × NI × NI × NI × NI × NI × Nat × NI × NI × NI × NI × NI × NI × NI × (Nat →
  Int) × RGPt27) (k : (Unit ⊕ Nat × NI × NI × NI × NI × NI × NI × NI × NI × NI × (Nat →
  Int) × Int × Nat × Nat × Int × Nat × NI × NI × NI × NI × NI × NI × NI × NI × NI × NI × Bool × Int × Bool × Int × Int × Int × Int × Int × Int × Nat × Int × Int × Nat × Nat × Bool × Int × Int × Int × Int × Int × Int ×
  Nat × NI × NI × NI × NI × NI × NI × NI × NI × NI × Nat × NI × NI × NI × NI × NI × NI × NI × NI × NI × Nat × NI × NI × (Nat →
  Int) × RGPt44) → Option ρ), (l_1 d k).bind q = l_1 d fun x => (k x).bind q) (hl_2 : ∀ {ρ σ : Type} (q : ρ →
  Option σ) (d : Nat × NI × NI × NI × NI × NI × NI × NI × NI × NI × NI × Int × Nat × NI × NI × NI × NI × NI × NI × NI × NI × NI × (Nat →
  Int) × Bool × Int × Int × Int × Int × Int × Int × Nat × Bool × Int × Int × Nat × Nat × Bool × Int × Int × Int × Int × Int × Int × Nat × NI × NI × NI × NI × NI × NI × NI × NI × NI × Nat × NI × NI × (Nat →
  Int) × NI × NI × NI × NI × NI × NI) (k : (Unit ⊕ Nat × NI × NI × NI × NI × NI × NI × NI × NI × NI × NI × Int × Bool × Nat × NI × NI × (Nat →
  Int) × NI × NI × NI × NI × NI × NI × NI × Bool × Int × Int × Int × Int × Int × Int × Int × Int × Int × Int × Int × Int × Int × Int × Int × Int × Int × Int × Int × Bool × Int × Nat × Nat × Bool × Int × Bool × Int × Int × Bool × Bool × Bool ×
  Int × Int × Int × Int × Int × Int × Int × Int × Int × Bool × Int × Int × Int × Bool × Int × Nat × Bool × Int × Int × Nat × NI × NI × NI × NI × NI × NI × NI × NI × NI × Nat × NI × NI × NI × (Nat →
  Int) × NI × NI × NI × NI × NI ⊕ Nat × NI × NI × NI × NI × NI × NI × NI × NI × NI × NI × Int × Bool × Nat × NI × NI × NI × NI × (Nat →
  Int) × RGPt41) → Option ρ),
  (l_2 d k).bind q = l_2 d fun x => (k x).bind q) (hl_0 : ∀ {ρ σ : Type} (q : ρ → Option σ) (d : Nat × NI × NI × NI × NI × NI × NI × NI × NI × NI × NI × Int × Int × Int × Int × Int × Int × Int × Nat × Bool × Int ×
  Int × Nat × Nat × Bool × Int × Int × Int × Int × Int × Int × Nat × NI × NI × NI × NI × NI × NI × NI × NI × NI × Nat × NI × NI × NI × NI × NI × NI × NI × (Nat →
  Int) × NI) (k : (Unit ⊕ RGPt42) → Option ρ), (l_0 d k).bind q = l_0 d fun x => (k x).bind q) (x0 : Int) (x1 : Nat) (x2 : Nat →
  Int) (x3 : Nat → Int) (x4 : Nat → Int) (x5 : Nat → Int) (x6 : Nat → Int) (x7 : Nat → Int) (x8 : Nat → Int) (x9 : Nat → Int) (x10 : Nat → Int) (x11 : Nat → Int) (k : (Bool) → Option ρ) : (K_astrolabelaw13_RingPlays g_astrolabelaw13_awake g_ring_New g___ring_Buffer__Put g_astrolaberef13_Put g___ring_Buffer__Pop g_astrolaberef13_Pop g___ring_Buffer__Spoilt g_astrolaberef13_Spoilt g___ring_Buffer__Peek g___ring_Buffer__Len g___ring_Buffer__Horizon g__ring_Counts__Total (@l_1) (@l_2) (@l_0) x0 x1 x2 x3 x4 x5 x6 x7 x8 x9 x10 x11 k).bind q = K_astrolabelaw13_RingPlays g_astrolabelaw13_awake g_ring_New g___ring_Buffer__Put g_astrolaberef13_Put g___ring_Buffer__Pop g_astrolaberef13_Pop g___ring_Buffer__Spoilt g_astrolaberef13_Spoilt g___ring_Buffer__Peek g___ring_Buffer__Len g___ring_Buffer__Horizon g__ring_Counts__Total (@l_1) (@l_2) (@l_0) x0 x1 x2 x3 x4 x5 x6 x7 x8 x9 x10 x11 (fun d => (k d).bind q) := by
  simp only [K_astrolabelaw13_RingPlays, bnd_cond, bnd_bind, bnd_none, bnd_sum, hl_1, hl_2, hl_0]
theorem qa_astrolabelaw13_RingPlays : ∀ b, (QA_astrolabelaw13_RingPlays).em b = ([.r (.c (.f (.i .i64 b.1.1))), .r (.c (.fs b.1.2.1.1 10 [.i .i64 b.1.2.1.2.2.1, .i .i64 b.1.2.1.2.2.2.1, .i .i64 b.1.2.1.c4.1, .i .i64 b.1.2.1.c4.2.1, .i .i64 b.1.2.1.c4.2.2.1, .i .i64 b.1.2.1.c4.2.2.2.1, .i .i64 b.1.2.1.c8.1, .i .i64 b.1.2.1.c8.2.1, .i .i64 b.1.2.1.c8.2.2.1, .i .i64 b.1.2.1.c8.2.2.2.1]))], []) := fun b => by kernel_rfl
theorem e_astrolabelaw13_RingPlays {f : (Int) → (Nat) → NI → NI → NI → NI → NI → NI → NI → NI → NI → NI → Option (Bool)} {args : List AV} {h : List Blk} {r : Res} (hr : (F_astrolabelaw13_RingPlays f args h).eval = some r) : ∃ x0 x1 x2 x3 x4 x5 x6 x7 x8 x9 x10 x11, args = [.r (.c (.f (.i .i64 x0))), .r (.c (.fs x1 10 [.i .i64 x2, .i .i64 x3, .i .i64 x4, .i .i64 x5, .i .i64 x6, .i .i64 x7, .i .i64 x8, .i .i64 x9, .i .i64 x10, .i .i64 x11]))] ∧ h = [] ∧ (f x0 x1 x2 x3 x4 x5 x6 x7 x8 x9 x10 x11).bind (fun (d : Bool) => some (Res.mk (AV.r (RV.c (CV.f (FV.b d)))) [] [])) = some r := by
  unfold F_astrolabelaw13_RingPlays at hr
  split at hr
  · rename_i b hb
    have e := ((QA_astrolabelaw13_RingPlays).ok _ _ hb).trans (qa_astrolabelaw13_RingPlays b)
    rw [opt_eval2] at hr
    exact ⟨b.1.1, b.1.2.1.1, b.1.2.1.2.2.1, b.1.2.1.2.2.2.1, b.1.2.1.c4.1, b.1.2.1.c4.2.1, b.1.2.1.c4.2.2.1, b.1.2.1.c4.2.2.2.1, b.1.2.1.c8.1, b.1.2.1.c8.2.1, b.1.2.1.c8.2.2.1, b.1.2.1.c8.2.2.2.1, (Prod.mk.inj e).1, (Prod.mk.inj e).2, hr⟩
  · cases hr
theorem n_astrolabelaw13_RingPlays {σ : Type} (q : (Bool) → Option σ) (x0 : Int) (x1 : Nat) (x2 : Nat → Int) (x3 : Nat → Int) (x4 : Nat → Int) (x5 : Nat → Int) (x6 : Nat → Int) (x7 : Nat → Int) (x8 : Nat → Int) (x9 : Nat → Int) (x10 : Nat → Int) (x11 : Nat → Int) : (f_astrolabelaw13_RingPlays x0 x1 x2 x3 x4 x5 x6 x7 x8 x9 x10 x11).bind q = K_astrolabelaw13_RingPlays f_astrolabelaw13_awake f_ring_New f___ring_Buffer__Put f_astrolaberef13_Put f___ring_Buffer__Pop f_astrolaberef13_Pop f___ring_Buffer__Spoilt f_astrolaberef13_Spoilt f___ring_Buffer__Peek f___ring_Buffer__Len f___ring_Buffer__Horizon f__ring_Counts__Total (@L_astrolabelaw13_RingPlays_1) (@L_astrolabelaw13_RingPlays_2) (@L_astrolabelaw13_RingPlays_0) x0 x1 x2 x3 x4 x5 x6 x7 x8 x9 x10 x11 q := by
  unfold f_astrolabelaw13_RingPlays
  exact m_astrolabelaw13_RingPlays q f_astrolabelaw13_awake f_ring_New f___ring_Buffer__Put f_astrolaberef13_Put f___ring_Buffer__Pop f_astrolaberef13_Pop f___ring_Buffer__Spoilt f_astrolaberef13_Spoilt f___ring_Buffer__Peek f___ring_Buffer__Len f___ring_Buffer__Horizon f__ring_Counts__Total (@L_astrolabelaw13_RingPlays_1) (@L_astrolabelaw13_RingPlays_2) (@L_astrolabelaw13_RingPlays_0) (fun q d k => mL_astrolabelaw13_RingPlays_1 q d k) (fun q d k => mL_astrolabelaw13_RingPlays_2 q d k) (fun q d k => mL_astrolabelaw13_RingPlays_0 q d k) x0 x1 x2 x3 x4 x5 x6 x7 x8 x9 x10 x11 some
theorem s_astrolabelaw13_RingPlays [Amb] : Sound Try.prog 4 (F_astrolabelaw13_RingPlays f_astrolabelaw13_RingPlays) := (inl_sums (l := [(15, F_astrolabelaw13_awake f_astrolabelaw13_awake), (16, F_ring_New f_ring_New), (17, F___ring_Buffer__Put f___ring_Buffer__Put), (21, F_astrolaberef13_Put f_astrolaberef13_Put),
  (22, F___ring_Buffer__Pop f___ring_Buffer__Pop), (23, F_astrolaberef13_Pop f_astrolaberef13_Pop), (24, F___ring_Buffer__Spoilt f___ring_Buffer__Spoilt), (25, F_astrolaberef13_Spoilt f_astrolaberef13_Spoilt), (18, F___ring_Buffer__Peek f___ring_Buffer__Peek), (26, F___ring_Buffer__Len f___ring_Buffer__Len),
  (19, F___ring_Buffer__Horizon f___ring_Buffer__Horizon), (27, F__ring_Counts__Total f__ring_Counts__Total), (20, F_astrolaberef13_New f_astrolaberef13_New)]) (.cons s_astrolabelaw13_awake (.cons s_ring_New (.cons s___ring_Buffer__Put (.cons s_astrolaberef13_Put (.cons s___ring_Buffer__Pop (.cons s_astrolaberef13_Pop (.cons s___ring_Buffer__Spoilt (.cons s_astrolaberef13_Spoilt (.cons s___ring_Buffer__Peek (.cons s___ring_Buffer__Len (.cons s___ring_Buffer__Horizon (.cons s__ring_Counts__Total (.cons s_astrolaberef13_New (.nil _)))))))))))))) mixed (hs := ⟨[⟨10,
  [0, 2, 3, 4, 6, 9, 10, 11, 12, 13, 14, 15, 16, 17, 18, 19, 20, 21, 22, 23, 24, 25, 26, 27, 28, 29, 30, 32, 33, 34, 35, 36, 37, 38, 39, 40, 42, 43, 44, 45, 46, 47, 48, 49, 50, 51, 52, 53, 54, 55, 56, 57, 58, 59, 60, 61, 63, 64, 65, 66, 67, 68, 69, 70, 71, 72, 74, 75, 76, 77, 78, 79, 80, 81, 82, 83, 84,
  85, 86, 87, 88, 89, 90, 91, 92, 93, 94, 95, 96, 97, 98, 99, 100, 101, 102, 103, 104, 105, 106, 107, 108, 109, 110, 111, 112, 113, 114, 115, 116, 117, 118, 119, 120, 121, 122, 123, 124, 125, 126, 127, 128, 129, 130, 131, 132, 133, 134, 135, 136, 137, 138, 139, 140, 141, 142, 143, 144, 145, 146, 147, 148,
  149, 150, 151, 152, 153, 154, 163, 164, 172, 173, 182, 183, 195, 196, 211, 62, 73, 155, 156, 157, 158, 159, 160, 161, 162, 165, 166, 167, 168, 169, 170, 171, 174, 175, 176, 177, 178, 179, 180, 181, 184, 185, 186, 187, 188, 189, 190, 191, 192, 193, 194, 197, 198, 199, 200, 201, 202, 203, 204, 205, 206,
  207, 208, 209, 210], [(0, [])]⟩, ⟨24, [0, 2, 3, 4, 6, 12, 13, 14, 15, 16, 17, 18, 19, 20, 21, 22, 23, 24, 25, 26, 27, 28, 29, 30, 32, 33, 34, 35, 36, 37, 38, 39, 40, 42, 43, 44, 45, 46, 47, 48, 49, 51, 52, 53, 54, 55, 56, 57, 58, 59, 61, 63, 64, 65, 66, 67, 68, 69, 70, 71, 72, 74, 75, 76, 77, 78, 79,
  80, 81, 82, 83, 84, 85, 86, 87, 88, 89, 90, 91, 92, 93, 94, 95, 96, 97, 98, 99, 100, 101, 102, 103, 104, 105, 106, 107, 108, 109, 110, 111, 112, 113, 114, 115, 116, 117, 118, 119, 120, 121, 122, 123, 124, 125, 126, 127, 128, 129, 130, 131, 132, 133, 134, 135, 136, 137, 138, 139, 140, 141, 142, 143, 144,
  145, 146, 147, 148, 149, 150, 151, 152, 153, 154, 163, 164, 172, 173, 182, 183, 195, 196, 211], [(0, [])]⟩], [⟨24, 0, @R_astrolabelaw13_RingPlays_1 (@L_astrolabelaw13_RingPlays_1)⟩, ⟨10, 0, @R_astrolabelaw13_RingPlays_0 (@L_astrolabelaw13_RingPlays_0)⟩], [], [⟨⟨29, [0, 2, 3, 4, 6, 9, 10, 11, 12, 13,
  14, 15, 16, 17, 18, 19, 20, 21, 22, 23, 24, 25, 26, 27, 28, 29, 30, 32, 33, 34, 35, 36, 37, 38, 39, 40, 42, 43, 44, 45, 46, 47, 48, 49, 51, 52, 53, 54, 55, 56, 57, 58, 59, 61, 63, 64, 65, 66, 67, 68, 69, 70, 71, 72, 74, 75, 76, 77, 78, 79, 80, 81, 82, 83, 84, 85, 86, 87, 88, 89, 90, 91, 92, 93, 94, 95,
  96, 97, 98, 99, 100, 101, 102, 103, 104, 105, 106, 107, 108, 109, 110, 111, 112, 113, 114, 115, 116, 117, 118, 119, 120, 121, 122, 123, 124, 125, 126, 127, 128, 129, 130, 131, 132, 133, 134, 135, 136, 137, 138, 139, 140, 141, 142, 143, 144, 145, 146, 147, 148, 149, 150, 151, 152, 153, 154, 163, 164,
  172, 173, 182, 183, 195, 196, 211, 62, 73], [(0, [])]⟩, ⟨29, 0, @R_astrolabelaw13_RingPlays_2 (@L_astrolabelaw13_RingPlays_2)⟩⟩], (some ⟨0, [0, 1, 2, 3, 5, 6, 7, 8, 9, 10, 11, 12, 13, 14, 15, 16, 17, 18, 19, 20, 21, 22, 23, 24, 25, 26, 27, 28, 29, 30, 31, 32, 33, 34, 35, 36, 37, 38, 39, 40, 41, 42, 43,
  44, 45, 46, 47, 48, 49, 50, 51, 52, 53, 54, 55, 56, 57, 58, 59, 60, 61, 62, 63, 64, 65, 66, 67, 68, 69, 70, 71, 72, 73, 74, 75, 76, 77, 78, 79, 80, 81, 82, 83, 84, 85, 86, 87, 88, 89, 90, 91, 92, 93, 94, 95, 96, 97, 98, 99, 100, 101, 102, 103, 104, 105, 106, 107, 108, 109, 110, 111, 112, 113, 114, 115,
  116, 117, 118, 119, 120, 121, 122, 123, 124, 125, 126, 127, 128, 129, 130, 131, 132, 133, 134, 135, 136, 137, 138, 139, 140, 141, 142, 143, 144, 145, 146, 147, 148, 149, 150, 151, 152, 153, 154, 155, 156, 157, 158, 159, 160, 161, 162, 163, 164, 165, 166, 167, 168, 169, 170, 171, 172, 173, 174, 175, 176,
  177, 178, 179, 180, 181, 182, 183, 184, 185, 186, 187, 188, 189, 190, 191, 192, 193, 194, 195, 196, 197, 198, 199, 200, 201, 202, 203, 204, 205, 206, 207, 208, 209, 210, 211], []⟩)⟩) (lf := 200) (Sums.by (l := [loopIn Try.prog 4 10, loopIn Try.prog 4 24]) (lj := [joinIn Try.prog 4 29]) (by kernel_rfl) ⟨so_astrolabelaw13_RingPlays_0,
  ⟨so_astrolabelaw13_RingPlays_1, trivial⟩⟩ (by kernel_rfl) ⟨so_astrolabelaw13_RingPlays_2, trivial⟩) (by kernel_rfl)).by (F := F_astrolabelaw13_RingPlays f_astrolabelaw13_RingPlays) fun args b r hr => by
  obtain ⟨x0, x1, x2, x3, x4, x5, x6, x7, x8, x9, x10, x11, rfl, rfl, hr1⟩ := e_astrolabelaw13_RingPlays hr
  exact inl_eval ((d_astrolabelaw13_RingPlays f_astrolabelaw13_awake f_ring_New f___ring_Buffer__Put f_astrolaberef13_Put f___ring_Buffer__Pop f_astrolaberef13_Pop f___ring_Buffer__Spoilt f_astrolaberef13_Spoilt f___ring_Buffer__Peek f___ring_Buffer__Len f___ring_Buffer__Horizon f__ring_Counts__Total (@L_astrolabelaw13_RingPlays_1) (@L_astrolabelaw13_RingPlays_2) (@L_astrolabelaw13_RingPlays_0) x0 x1 x2 x3 x4 x5 x6 x7 x8 x9 x10 x11).trans ((n_astrolabelaw13_RingPlays (fun (d : Bool) => some (Res.mk (AV.r (RV.c (CV.f (FV.b d)))) [] [])) x0 x1 x2 x3 x4 x5 x6 x7 x8 x9 x10 x11).symm.trans hr1))

end Go.Proofs.Ythbnojedlbeglaa
