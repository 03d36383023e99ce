/- Ways that meet again within a drawn region. No program is named here. -/
import Derived.Test.YtnhjohcgnmogaaaDoorFast
set_option linter.unusedVariables false
set_option linter.unusedSimpArgs false
set_option linter.unusedSectionVars false
namespace Go.Proofs.YtnhjohcgnmogaaaDoor
open Go Go.RowKit

section
variable {P : Program} {ops : Array Oper} {Q : Exit → Act → World → Prop} {a : Act} {n : Nat} {l : List (Nat × Option Value)} {w : World} {B : List Nat} {k0 h0 fuel : Nat} {listed : Array Bool}
/-! So many operations later the ways meet: what is known there, and what follows. -/
theorem k_mid1 (H0 : Has a n l) (fuel' : Nat) (i1 : Nat) (L : List (Nat × Value)) (R : World → Prop)
    (h1 : (∀ l' a w, Has a n l' → Sub L l' → R w → wpK P ops Q k0 (ChgF B h0 w) fuel' (listed.setIfInBounds i1 true) a w) → wpK P ops Q k0 (ChgF B h0 w) fuel listed a w)
    (h2 : ∀ a w, Has a n (ent L) → R w → wpK P ops Q k0 (ChgF B h0 w) fuel' (listed.setIfInBounds i1 true) a w) : wpK P ops Q k0 (ChgF B h0 w) fuel listed a w :=
  h1 fun l' a w H hs hR => h2 a w (H.sub _ hs) hR
theorem k_mid2 (H0 : Has a n l) (fuel' : Nat) (i1 i2 : Nat) (L : List (Nat × Value)) (R : World → Prop)
    (h1 : (∀ l' a w, Has a n l' → Sub L l' → R w → wpK P ops Q k0 (ChgF B h0 w) fuel' ((listed.setIfInBounds i1 true).setIfInBounds i2 true) a w) → wpK P ops Q k0 (ChgF B h0 w) fuel listed a w)
    (h2 : ∀ a w, Has a n (ent L) → R w → wpK P ops Q k0 (ChgF B h0 w) fuel' ((listed.setIfInBounds i1 true).setIfInBounds i2 true) a w) : wpK P ops Q k0 (ChgF B h0 w) fuel listed a w :=
  h1 fun l' a w H hs hR => h2 a w (H.sub _ hs) hR
theorem k_mid3 (H0 : Has a n l) (fuel' : Nat) (i1 i2 i3 : Nat) (L : List (Nat × Value)) (R : World → Prop)
    (h1 : (∀ l' a w, Has a n l' → Sub L l' → R w → wpK P ops Q k0 (ChgF B h0 w) fuel' (((listed.setIfInBounds i1 true).setIfInBounds i2 true).setIfInBounds i3 true) a w) → wpK P ops Q k0 (ChgF B h0 w) fuel listed a w)
    (h2 : ∀ a w, Has a n (ent L) → R w → wpK P ops Q k0 (ChgF B h0 w) fuel' (((listed.setIfInBounds i1 true).setIfInBounds i2 true).setIfInBounds i3 true) a w) : wpK P ops Q k0 (ChgF B h0 w) fuel listed a w :=
  h1 fun l' a w H hs hR => h2 a w (H.sub _ hs) hR
theorem k_mid4 (H0 : Has a n l) (fuel' : Nat) (i1 i2 i3 i4 : Nat) (L : List (Nat × Value)) (R : World → Prop)
    (h1 : (∀ l' a w, Has a n l' → Sub L l' → R w → wpK P ops Q k0 (ChgF B h0 w) fuel' ((((listed.setIfInBounds i1 true).setIfInBounds i2 true).setIfInBounds i3 true).setIfInBounds i4 true) a w) → wpK P ops Q k0 (ChgF B h0 w) fuel listed a w)
    (h2 : ∀ a w, Has a n (ent L) → R w → wpK P ops Q k0 (ChgF B h0 w) fuel' ((((listed.setIfInBounds i1 true).setIfInBounds i2 true).setIfInBounds i3 true).setIfInBounds i4 true) a w) : wpK P ops Q k0 (ChgF B h0 w) fuel listed a w :=
  h1 fun l' a w H hs hR => h2 a w (H.sub _ hs) hR
theorem k_mid5 (H0 : Has a n l) (fuel' : Nat) (i1 i2 i3 i4 i5 : Nat) (L : List (Nat × Value)) (R : World → Prop)
    (h1 : (∀ l' a w, Has a n l' → Sub L l' → R w → wpK P ops Q k0 (ChgF B h0 w) fuel' (((((listed.setIfInBounds i1 true).setIfInBounds i2 true).setIfInBounds i3 true).setIfInBounds i4 true).setIfInBounds i5 true) a w) → wpK P ops Q k0 (ChgF B h0 w) fuel listed a w)
    (h2 : ∀ a w, Has a n (ent L) → R w → wpK P ops Q k0 (ChgF B h0 w) fuel' (((((listed.setIfInBounds i1 true).setIfInBounds i2 true).setIfInBounds i3 true).setIfInBounds i4 true).setIfInBounds i5 true) a w) : wpK P ops Q k0 (ChgF B h0 w) fuel listed a w :=
  h1 fun l' a w H hs hR => h2 a w (H.sub _ hs) hR
theorem k_mid6 (H0 : Has a n l) (fuel' : Nat) (i1 i2 i3 i4 i5 i6 : Nat) (L : List (Nat × Value)) (R : World → Prop)
    (h1 : (∀ l' a w, Has a n l' → Sub L l' → R w → wpK P ops Q k0 (ChgF B h0 w) fuel' ((((((listed.setIfInBounds i1 true).setIfInBounds i2 true).setIfInBounds i3 true).setIfInBounds i4 true).setIfInBounds i5 true).setIfInBounds i6 true) a w) → wpK P ops Q k0 (ChgF B h0 w) fuel listed a w)
    (h2 : ∀ a w, Has a n (ent L) → R w → wpK P ops Q k0 (ChgF B h0 w) fuel' ((((((listed.setIfInBounds i1 true).setIfInBounds i2 true).setIfInBounds i3 true).setIfInBounds i4 true).setIfInBounds i5 true).setIfInBounds i6 true) a w) : wpK P ops Q k0 (ChgF B h0 w) fuel listed a w :=
  h1 fun l' a w H hs hR => h2 a w (H.sub _ hs) hR
theorem k_mid7 (H0 : Has a n l) (fuel' : Nat) (i1 i2 i3 i4 i5 i6 i7 : Nat) (L : List (Nat × Value)) (R : World → Prop)
    (h1 : (∀ l' a w, Has a n l' → Sub L l' → R w → wpK P ops Q k0 (ChgF B h0 w) fuel' (((((((listed.setIfInBounds i1 true).setIfInBounds i2 true).setIfInBounds i3 true).setIfInBounds i4 true).setIfInBounds i5 true).setIfInBounds i6 true).setIfInBounds i7 true) a w) → wpK P ops Q k0 (ChgF B h0 w) fuel listed a w)
    (h2 : ∀ a w, Has a n (ent L) → R w → wpK P ops Q k0 (ChgF B h0 w) fuel' (((((((listed.setIfInBounds i1 true).setIfInBounds i2 true).setIfInBounds i3 true).setIfInBounds i4 true).setIfInBounds i5 true).setIfInBounds i6 true).setIfInBounds i7 true) a w) : wpK P ops Q k0 (ChgF B h0 w) fuel listed a w :=
  h1 fun l' a w H hs hR => h2 a w (H.sub _ hs) hR
theorem k_mid8 (H0 : Has a n l) (fuel' : Nat) (i1 i2 i3 i4 i5 i6 i7 i8 : Nat) (L : List (Nat × Value)) (R : World → Prop)
    (h1 : (∀ l' a w, Has a n l' → Sub L l' → R w → wpK P ops Q k0 (ChgF B h0 w) fuel' ((((((((listed.setIfInBounds i1 true).setIfInBounds i2 true).setIfInBounds i3 true).setIfInBounds i4 true).setIfInBounds i5 true).setIfInBounds i6 true).setIfInBounds i7 true).setIfInBounds i8 true) a w) → wpK P ops Q k0 (ChgF B h0 w) fuel listed a w)
    (h2 : ∀ a w, Has a n (ent L) → R w → wpK P ops Q k0 (ChgF B h0 w) fuel' ((((((((listed.setIfInBounds i1 true).setIfInBounds i2 true).setIfInBounds i3 true).setIfInBounds i4 true).setIfInBounds i5 true).setIfInBounds i6 true).setIfInBounds i7 true).setIfInBounds i8 true) a w) : wpK P ops Q k0 (ChgF B h0 w) fuel listed a w :=
  h1 fun l' a w H hs hR => h2 a w (H.sub _ hs) hR
theorem k_mid9 (H0 : Has a n l) (fuel' : Nat) (i1 i2 i3 i4 i5 i6 i7 i8 i9 : Nat) (L : List (Nat × Value)) (R : World → Prop)
    (h1 : (∀ l' a w, Has a n l' → Sub L l' → R w → wpK P ops Q k0 (ChgF B h0 w) fuel' (((((((((listed.setIfInBounds i1 true).setIfInBounds i2 true).setIfInBounds i3 true).setIfInBounds i4 true).setIfInBounds i5 true).setIfInBounds i6 true).setIfInBounds i7 true).setIfInBounds i8 true).setIfInBounds i9 true) a w) → wpK P ops Q k0 (ChgF B h0 w) fuel listed a w)
    (h2 : ∀ a w, Has a n (ent L) → R w → wpK P ops Q k0 (ChgF B h0 w) fuel' (((((((((listed.setIfInBounds i1 true).setIfInBounds i2 true).setIfInBounds i3 true).setIfInBounds i4 true).setIfInBounds i5 true).setIfInBounds i6 true).setIfInBounds i7 true).setIfInBounds i8 true).setIfInBounds i9 true) a w) : wpK P ops Q k0 (ChgF B h0 w) fuel listed a w :=
  h1 fun l' a w H hs hR => h2 a w (H.sub _ hs) hR
theorem k_mid10 (H0 : Has a n l) (fuel' : Nat) (i1 i2 i3 i4 i5 i6 i7 i8 i9 i10 : Nat) (L : List (Nat × Value)) (R : World → Prop)
    (h1 : (∀ l' a w, Has a n l' → Sub L l' → R w → wpK P ops Q k0 (ChgF B h0 w) fuel' ((((((((((listed.setIfInBounds i1 true).setIfInBounds i2 true).setIfInBounds i3 true).setIfInBounds i4 true).setIfInBounds i5 true).setIfInBounds i6 true).setIfInBounds i7 true).setIfInBounds i8 true).setIfInBounds i9 true).setIfInBounds i10 true) a w) → wpK P ops Q k0 (ChgF B h0 w) fuel listed a w)
    (h2 : ∀ a w, Has a n (ent L) → R w → wpK P ops Q k0 (ChgF B h0 w) fuel' ((((((((((listed.setIfInBounds i1 true).setIfInBounds i2 true).setIfInBounds i3 true).setIfInBounds i4 true).setIfInBounds i5 true).setIfInBounds i6 true).setIfInBounds i7 true).setIfInBounds i8 true).setIfInBounds i9 true).setIfInBounds i10 true) a w) : wpK P ops Q k0 (ChgF B h0 w) fuel listed a w :=
  h1 fun l' a w H hs hR => h2 a w (H.sub _ hs) hR
theorem k_mid11 (H0 : Has a n l) (fuel' : Nat) (i1 i2 i3 i4 i5 i6 i7 i8 i9 i10 i11 : Nat) (L : List (Nat × Value)) (R : World → Prop)
    (h1 : (∀ l' a w, Has a n l' → Sub L l' → R w → wpK P ops Q k0 (ChgF B h0 w) fuel' (((((((((((listed.setIfInBounds i1 true).setIfInBounds i2 true).setIfInBounds i3 true).setIfInBounds i4 true).setIfInBounds i5 true).setIfInBounds i6 true).setIfInBounds i7 true).setIfInBounds i8 true).setIfInBounds i9 true).setIfInBounds i10 true).setIfInBounds i11 true) a w) → wpK P ops Q k0 (ChgF B h0 w) fuel listed a w)
    (h2 : ∀ a w, Has a n (ent L) → R w → wpK P ops Q k0 (ChgF B h0 w) fuel' (((((((((((listed.setIfInBounds i1 true).setIfInBounds i2 true).setIfInBounds i3 true).setIfInBounds i4 true).setIfInBounds i5 true).setIfInBounds i6 true).setIfInBounds i7 true).setIfInBounds i8 true).setIfInBounds i9 true).setIfInBounds i10 true).setIfInBounds i11 true) a w) : wpK P ops Q k0 (ChgF B h0 w) fuel listed a w :=
  h1 fun l' a w H hs hR => h2 a w (H.sub _ hs) hR
theorem k_mid12 (H0 : Has a n l) (fuel' : Nat) (i1 i2 i3 i4 i5 i6 i7 i8 i9 i10 i11 i12 : Nat) (L : List (Nat × Value)) (R : World → Prop)
    (h1 : (∀ l' a w, Has a n l' → Sub L l' → R w → wpK P ops Q k0 (ChgF B h0 w) fuel' ((((((((((((listed.setIfInBounds i1 true).setIfInBounds i2 true).setIfInBounds i3 true).setIfInBounds i4 true).setIfInBounds i5 true).setIfInBounds i6 true).setIfInBounds i7 true).setIfInBounds i8 true).setIfInBounds i9 true).setIfInBounds i10 true).setIfInBounds i11 true).setIfInBounds i12 true) a w) → wpK P ops Q k0 (ChgF B h0 w) fuel listed a w)
    (h2 : ∀ a w, Has a n (ent L) → R w → wpK P ops Q k0 (ChgF B h0 w) fuel' ((((((((((((listed.setIfInBounds i1 true).setIfInBounds i2 true).setIfInBounds i3 true).setIfInBounds i4 true).setIfInBounds i5 true).setIfInBounds i6 true).setIfInBounds i7 true).setIfInBounds i8 true).setIfInBounds i9 true).setIfInBounds i10 true).setIfInBounds i11 true).setIfInBounds i12 true) a w) : wpK P ops Q k0 (ChgF B h0 w) fuel listed a w :=
  h1 fun l' a w H hs hR => h2 a w (H.sub _ hs) hR
theorem k_mid13 (H0 : Has a n l) (fuel' : Nat) (i1 i2 i3 i4 i5 i6 i7 i8 i9 i10 i11 i12 i13 : Nat) (L : List (Nat × Value)) (R : World → Prop)
    (h1 : (∀ l' a w, Has a n l' → Sub L l' → R w → wpK P ops Q k0 (ChgF B h0 w) fuel' (((((((((((((listed.setIfInBounds i1 true).setIfInBounds i2 true).setIfInBounds i3 true).setIfInBounds i4 true).setIfInBounds i5 true).setIfInBounds i6 true).setIfInBounds i7 true).setIfInBounds i8 true).setIfInBounds i9 true).setIfInBounds i10 true).setIfInBounds i11 true).setIfInBounds i12 true).setIfInBounds i13 true) a w) → wpK P ops Q k0 (ChgF B h0 w) fuel listed a w)
    (h2 : ∀ a w, Has a n (ent L) → R w → wpK P ops Q k0 (ChgF B h0 w) fuel' (((((((((((((listed.setIfInBounds i1 true).setIfInBounds i2 true).setIfInBounds i3 true).setIfInBounds i4 true).setIfInBounds i5 true).setIfInBounds i6 true).setIfInBounds i7 true).setIfInBounds i8 true).setIfInBounds i9 true).setIfInBounds i10 true).setIfInBounds i11 true).setIfInBounds i12 true).setIfInBounds i13 true) a w) : wpK P ops Q k0 (ChgF B h0 w) fuel listed a w :=
  h1 fun l' a w H hs hR => h2 a w (H.sub _ hs) hR
theorem k_mid14 (H0 : Has a n l) (fuel' : Nat) (i1 i2 i3 i4 i5 i6 i7 i8 i9 i10 i11 i12 i13 i14 : Nat) (L : List (Nat × Value)) (R : World → Prop)
    (h1 : (∀ l' a w, Has a n l' → Sub L l' → R w → wpK P ops Q k0 (ChgF B h0 w) fuel' ((((((((((((((listed.setIfInBounds i1 true).setIfInBounds i2 true).setIfInBounds i3 true).setIfInBounds i4 true).setIfInBounds i5 true).setIfInBounds i6 true).setIfInBounds i7 true).setIfInBounds i8 true).setIfInBounds i9 true).setIfInBounds i10 true).setIfInBounds i11 true).setIfInBounds i12 true).setIfInBounds i13 true).setIfInBounds i14 true) a w) → wpK P ops Q k0 (ChgF B h0 w) fuel listed a w)
    (h2 : ∀ a w, Has a n (ent L) → R w → wpK P ops Q k0 (ChgF B h0 w) fuel' ((((((((((((((listed.setIfInBounds i1 true).setIfInBounds i2 true).setIfInBounds i3 true).setIfInBounds i4 true).setIfInBounds i5 true).setIfInBounds i6 true).setIfInBounds i7 true).setIfInBounds i8 true).setIfInBounds i9 true).setIfInBounds i10 true).setIfInBounds i11 true).setIfInBounds i12 true).setIfInBounds i13 true).setIfInBounds i14 true) a w) : wpK P ops Q k0 (ChgF B h0 w) fuel listed a w :=
  h1 fun l' a w H hs hR => h2 a w (H.sub _ hs) hR
theorem k_mid15 (H0 : Has a n l) (fuel' : Nat) (i1 i2 i3 i4 i5 i6 i7 i8 i9 i10 i11 i12 i13 i14 i15 : Nat) (L : List (Nat × Value)) (R : World → Prop)
    (h1 : (∀ l' a w, Has a n l' → Sub L l' → R w → wpK P ops Q k0 (ChgF B h0 w) fuel' (((((((((((((((listed.setIfInBounds i1 true).setIfInBounds i2 true).setIfInBounds i3 true).setIfInBounds i4 true).setIfInBounds i5 true).setIfInBounds i6 true).setIfInBounds i7 true).setIfInBounds i8 true).setIfInBounds i9 true).setIfInBounds i10 true).setIfInBounds i11 true).setIfInBounds i12 true).setIfInBounds i13 true).setIfInBounds i14 true).setIfInBounds i15 true) a w) → wpK P ops Q k0 (ChgF B h0 w) fuel listed a w)
    (h2 : ∀ a w, Has a n (ent L) → R w → wpK P ops Q k0 (ChgF B h0 w) fuel' (((((((((((((((listed.setIfInBounds i1 true).setIfInBounds i2 true).setIfInBounds i3 true).setIfInBounds i4 true).setIfInBounds i5 true).setIfInBounds i6 true).setIfInBounds i7 true).setIfInBounds i8 true).setIfInBounds i9 true).setIfInBounds i10 true).setIfInBounds i11 true).setIfInBounds i12 true).setIfInBounds i13 true).setIfInBounds i14 true).setIfInBounds i15 true) a w) : wpK P ops Q k0 (ChgF B h0 w) fuel listed a w :=
  h1 fun l' a w H hs hR => h2 a w (H.sub _ hs) hR
theorem k_mid16 (H0 : Has a n l) (fuel' : Nat) (i1 i2 i3 i4 i5 i6 i7 i8 i9 i10 i11 i12 i13 i14 i15 i16 : Nat) (L : List (Nat × Value)) (R : World → Prop)
    (h1 : (∀ l' a w, Has a n l' → Sub L l' → R w → wpK P ops Q k0 (ChgF B h0 w) fuel' ((((((((((((((((listed.setIfInBounds i1 true).setIfInBounds i2 true).setIfInBounds i3 true).setIfInBounds i4 true).setIfInBounds i5 true).setIfInBounds i6 true).setIfInBounds i7 true).setIfInBounds i8 true).setIfInBounds i9 true).setIfInBounds i10 true).setIfInBounds i11 true).setIfInBounds i12 true).setIfInBounds i13 true).setIfInBounds i14 true).setIfInBounds i15 true).setIfInBounds i16 true) a w) → wpK P ops Q k0 (ChgF B h0 w) fuel listed a w)
    (h2 : ∀ a w, Has a n (ent L) → R w → wpK P ops Q k0 (ChgF B h0 w) fuel' ((((((((((((((((listed.setIfInBounds i1 true).setIfInBounds i2 true).setIfInBounds i3 true).setIfInBounds i4 true).setIfInBounds i5 true).setIfInBounds i6 true).setIfInBounds i7 true).setIfInBounds i8 true).setIfInBounds i9 true).setIfInBounds i10 true).setIfInBounds i11 true).setIfInBounds i12 true).setIfInBounds i13 true).setIfInBounds i14 true).setIfInBounds i15 true).setIfInBounds i16 true) a w) : wpK P ops Q k0 (ChgF B h0 w) fuel listed a w :=
  h1 fun l' a w H hs hR => h2 a w (H.sub _ hs) hR
theorem k_mid17 (H0 : Has a n l) (fuel' : Nat) (i1 i2 i3 i4 i5 i6 i7 i8 i9 i10 i11 i12 i13 i14 i15 i16 i17 : Nat) (L : List (Nat × Value)) (R : World → Prop)
    (h1 : (∀ l' a w, Has a n l' → Sub L l' → R w → wpK P ops Q k0 (ChgF B h0 w) fuel' (((((((((((((((((listed.setIfInBounds i1 true).setIfInBounds i2 true).setIfInBounds i3 true).setIfInBounds i4 true).setIfInBounds i5 true).setIfInBounds i6 true).setIfInBounds i7 true).setIfInBounds i8 true).setIfInBounds i9 true).setIfInBounds i10 true).setIfInBounds i11 true).setIfInBounds i12 true).setIfInBounds i13 true).setIfInBounds i14 true).setIfInBounds i15 true).setIfInBounds i16 true).setIfInBounds i17 true) a w) → wpK P ops Q k0 (ChgF B h0 w) fuel listed a w)
    (h2 : ∀ a w, Has a n (ent L) → R w → wpK P ops Q k0 (ChgF B h0 w) fuel' (((((((((((((((((listed.setIfInBounds i1 true).setIfInBounds i2 true).setIfInBounds i3 true).setIfInBounds i4 true).setIfInBounds i5 true).setIfInBounds i6 true).setIfInBounds i7 true).setIfInBounds i8 true).setIfInBounds i9 true).setIfInBounds i10 true).setIfInBounds i11 true).setIfInBounds i12 true).setIfInBounds i13 true).setIfInBounds i14 true).setIfInBounds i15 true).setIfInBounds i16 true).setIfInBounds i17 true) a w) : wpK P ops Q k0 (ChgF B h0 w) fuel listed a w :=
  h1 fun l' a w H hs hR => h2 a w (H.sub _ hs) hR
theorem k_mid18 (H0 : Has a n l) (fuel' : Nat) (i1 i2 i3 i4 i5 i6 i7 i8 i9 i10 i11 i12 i13 i14 i15 i16 i17 i18 : Nat) (L : List (Nat × Value)) (R : World → Prop)
    (h1 : (∀ l' a w, Has a n l' → Sub L l' → R w → wpK P ops Q k0 (ChgF B h0 w) fuel' ((((((((((((((((((listed.setIfInBounds i1 true).setIfInBounds i2 true).setIfInBounds i3 true).setIfInBounds i4 true).setIfInBounds i5 true).setIfInBounds i6 true).setIfInBounds i7 true).setIfInBounds i8 true).setIfInBounds i9 true).setIfInBounds i10 true).setIfInBounds i11 true).setIfInBounds i12 true).setIfInBounds i13 true).setIfInBounds i14 true).setIfInBounds i15 true).setIfInBounds i16 true).setIfInBounds i17 true).setIfInBounds i18 true) a w) → wpK P ops Q k0 (ChgF B h0 w) fuel listed a w)
    (h2 : ∀ a w, Has a n (ent L) → R w → wpK P ops Q k0 (ChgF B h0 w) fuel' ((((((((((((((((((listed.setIfInBounds i1 true).setIfInBounds i2 true).setIfInBounds i3 true).setIfInBounds i4 true).setIfInBounds i5 true).setIfInBounds i6 true).setIfInBounds i7 true).setIfInBounds i8 true).setIfInBounds i9 true).setIfInBounds i10 true).setIfInBounds i11 true).setIfInBounds i12 true).setIfInBounds i13 true).setIfInBounds i14 true).setIfInBounds i15 true).setIfInBounds i16 true).setIfInBounds i17 true).setIfInBounds i18 true) a w) : wpK P ops Q k0 (ChgF B h0 w) fuel listed a w :=
  h1 fun l' a w H hs hR => h2 a w (H.sub _ hs) hR
theorem k_mid19 (H0 : Has a n l) (fuel' : Nat) (i1 i2 i3 i4 i5 i6 i7 i8 i9 i10 i11 i12 i13 i14 i15 i16 i17 i18 i19 : Nat) (L : List (Nat × Value)) (R : World → Prop)
    (h1 : (∀ l' a w, Has a n l' → Sub L l' → R w → wpK P ops Q k0 (ChgF B h0 w) fuel' (((((((((((((((((((listed.setIfInBounds i1 true).setIfInBounds i2 true).setIfInBounds i3 true).setIfInBounds i4 true).setIfInBounds i5 true).setIfInBounds i6 true).setIfInBounds i7 true).setIfInBounds i8 true).setIfInBounds i9 true).setIfInBounds i10 true).setIfInBounds i11 true).setIfInBounds i12 true).setIfInBounds i13 true).setIfInBounds i14 true).setIfInBounds i15 true).setIfInBounds i16 true).setIfInBounds i17 true).setIfInBounds i18 true).setIfInBounds i19 true) a w) → wpK P ops Q k0 (ChgF B h0 w) fuel listed a w)
    (h2 : ∀ a w, Has a n (ent L) → R w → wpK P ops Q k0 (ChgF B h0 w) fuel' (((((((((((((((((((listed.setIfInBounds i1 true).setIfInBounds i2 true).setIfInBounds i3 true).setIfInBounds i4 true).setIfInBounds i5 true).setIfInBounds i6 true).setIfInBounds i7 true).setIfInBounds i8 true).setIfInBounds i9 true).setIfInBounds i10 true).setIfInBounds i11 true).setIfInBounds i12 true).setIfInBounds i13 true).setIfInBounds i14 true).setIfInBounds i15 true).setIfInBounds i16 true).setIfInBounds i17 true).setIfInBounds i18 true).setIfInBounds i19 true) a w) : wpK P ops Q k0 (ChgF B h0 w) fuel listed a w :=
  h1 fun l' a w H hs hR => h2 a w (H.sub _ hs) hR
theorem k_mid20 (H0 : Has a n l) (fuel' : Nat) (i1 i2 i3 i4 i5 i6 i7 i8 i9 i10 i11 i12 i13 i14 i15 i16 i17 i18 i19 i20 : Nat) (L : List (Nat × Value)) (R : World → Prop)
    (h1 : (∀ l' a w, Has a n l' → Sub L l' → R w → wpK P ops Q k0 (ChgF B h0 w) fuel' ((((((((((((((((((((listed.setIfInBounds i1 true).setIfInBounds i2 true).setIfInBounds i3 true).setIfInBounds i4 true).setIfInBounds i5 true).setIfInBounds i6 true).setIfInBounds i7 true).setIfInBounds i8 true).setIfInBounds i9 true).setIfInBounds i10 true).setIfInBounds i11 true).setIfInBounds i12 true).setIfInBounds i13 true).setIfInBounds i14 true).setIfInBounds i15 true).setIfInBounds i16 true).setIfInBounds i17 true).setIfInBounds i18 true).setIfInBounds i19 true).setIfInBounds i20 true) a w) → wpK P ops Q k0 (ChgF B h0 w) fuel listed a w)
    (h2 : ∀ a w, Has a n (ent L) → R w → wpK P ops Q k0 (ChgF B h0 w) fuel' ((((((((((((((((((((listed.setIfInBounds i1 true).setIfInBounds i2 true).setIfInBounds i3 true).setIfInBounds i4 true).setIfInBounds i5 true).setIfInBounds i6 true).setIfInBounds i7 true).setIfInBounds i8 true).setIfInBounds i9 true).setIfInBounds i10 true).setIfInBounds i11 true).setIfInBounds i12 true).setIfInBounds i13 true).setIfInBounds i14 true).setIfInBounds i15 true).setIfInBounds i16 true).setIfInBounds i17 true).setIfInBounds i18 true).setIfInBounds i19 true).setIfInBounds i20 true) a w) : wpK P ops Q k0 (ChgF B h0 w) fuel listed a w :=
  h1 fun l' a w H hs hR => h2 a w (H.sub _ hs) hR
end
section
variable {fp : Nat → Prop} {w0 w : World} {rs : List Rs} {r0 r1 r2 r3 r4 r5 r6 r7 r8 r9 r10 r11 : Rs}
theorem St.tk0 (h : St fp w0 w (rs)) : St fp w0 w [] := h.take 0
theorem St.tk1 (h : St fp w0 w (r0 :: rs)) : St fp w0 w [r0] := h.take 1
theorem St.tk2 (h : St fp w0 w (r0 :: r1 :: rs)) : St fp w0 w [r0, r1] := h.take 2
theorem St.tk3 (h : St fp w0 w (r0 :: r1 :: r2 :: rs)) : St fp w0 w [r0, r1, r2] := h.take 3
theorem St.tk4 (h : St fp w0 w (r0 :: r1 :: r2 :: r3 :: rs)) : St fp w0 w [r0, r1, r2, r3] := h.take 4
theorem St.tk5 (h : St fp w0 w (r0 :: r1 :: r2 :: r3 :: r4 :: rs)) : St fp w0 w [r0, r1, r2, r3, r4] := h.take 5
theorem St.tk6 (h : St fp w0 w (r0 :: r1 :: r2 :: r3 :: r4 :: r5 :: rs)) : St fp w0 w [r0, r1, r2, r3, r4, r5] := h.take 6
theorem St.tk7 (h : St fp w0 w (r0 :: r1 :: r2 :: r3 :: r4 :: r5 :: r6 :: rs)) : St fp w0 w [r0, r1, r2, r3, r4, r5, r6] := h.take 7
theorem St.tk8 (h : St fp w0 w (r0 :: r1 :: r2 :: r3 :: r4 :: r5 :: r6 :: r7 :: rs)) : St fp w0 w [r0, r1, r2, r3, r4, r5, r6, r7] := h.take 8
theorem St.tk9 (h : St fp w0 w (r0 :: r1 :: r2 :: r3 :: r4 :: r5 :: r6 :: r7 :: r8 :: rs)) : St fp w0 w [r0, r1, r2, r3, r4, r5, r6, r7, r8] := h.take 9
theorem St.pk1 (h : St fp w0 w (r0 :: r1 :: rs)) : St fp w0 w (r1 :: r0 :: rs) := h.pick 1 rfl
theorem St.pk2 (h : St fp w0 w (r0 :: r1 :: r2 :: rs)) : St fp w0 w (r2 :: r0 :: r1 :: rs) := h.pick 2 rfl
theorem St.pk3 (h : St fp w0 w (r0 :: r1 :: r2 :: r3 :: rs)) : St fp w0 w (r3 :: r0 :: r1 :: r2 :: rs) := h.pick 3 rfl
theorem St.pk4 (h : St fp w0 w (r0 :: r1 :: r2 :: r3 :: r4 :: rs)) : St fp w0 w (r4 :: r0 :: r1 :: r2 :: r3 :: rs) := h.pick 4 rfl
theorem St.pk5 (h : St fp w0 w (r0 :: r1 :: r2 :: r3 :: r4 :: r5 :: rs)) : St fp w0 w (r5 :: r0 :: r1 :: r2 :: r3 :: r4 :: rs) := h.pick 5 rfl
theorem St.pk6 (h : St fp w0 w (r0 :: r1 :: r2 :: r3 :: r4 :: r5 :: r6 :: rs)) : St fp w0 w (r6 :: r0 :: r1 :: r2 :: r3 :: r4 :: r5 :: rs) := h.pick 6 rfl
theorem St.pk7 (h : St fp w0 w (r0 :: r1 :: r2 :: r3 :: r4 :: r5 :: r6 :: r7 :: rs)) : St fp w0 w (r7 :: r0 :: r1 :: r2 :: r3 :: r4 :: r5 :: r6 :: rs) := h.pick 7 rfl
theorem St.pk8 (h : St fp w0 w (r0 :: r1 :: r2 :: r3 :: r4 :: r5 :: r6 :: r7 :: r8 :: rs)) : St fp w0 w (r8 :: r0 :: r1 :: r2 :: r3 :: r4 :: r5 :: r6 :: r7 :: rs) := h.pick 8 rfl
theorem St.pk9 (h : St fp w0 w (r0 :: r1 :: r2 :: r3 :: r4 :: r5 :: r6 :: r7 :: r8 :: r9 :: rs)) : St fp w0 w (r9 :: r0 :: r1 :: r2 :: r3 :: r4 :: r5 :: r6 :: r7 :: r8 :: rs) := h.pick 9 rfl
theorem St.pk10 (h : St fp w0 w (r0 :: r1 :: r2 :: r3 :: r4 :: r5 :: r6 :: r7 :: r8 :: r9 :: r10 :: rs)) : St fp w0 w (r10 :: r0 :: r1 :: r2 :: r3 :: r4 :: r5 :: r6 :: r7 :: r8 :: r9 :: rs) := h.pick 10 rfl
end
end Go.Proofs.YtnhjohcgnmogaaaDoor
