/-
  Regions that draw their order: orders that meet again in one world.
-/
import Derived.Test.YtegopgpnjgikeaaGreatDoorL0
set_option linter.unusedVariables false
namespace Go.Proofs.YtegopgpnjgikeaaGreatDoor
open Go.RowKit
theorem intro_world {R : World → Prop} {W : World} (h : ∀ W', W' = W → R W') : R W := h W rfl
theorem Conv.convG {G C : Nat → Option Addr → Nat → Option Addr → Nat → Option Addr → Nat → World → Prop} {T : Prop} (ht : ∀ b a n a' n' a'' n'' W, C b a n a' n' a'' n'' W → G b a n a' n' a'' n'' W) (h : (∀ b a n a' n' a'' n'' W, C b a n a' n' a'' n'' W → G b a n a' n' a'' n'' W) → T) : T := h ht
theorem Conv.convF {G C : Nat → Option Addr → Nat → World → Prop} {T : Prop} (ht : ∀ b a n W, C b a n W → G b a n W) (h : (∀ b a n W, C b a n W → G b a n W) → T) : T := h ht
theorem Conv.conv1 {G C : Nat → World → Prop} {T : Prop} (ht : ∀ b W, C b W → G b W) (h : (∀ b W, C b W → G b W) → T) : T := h ht
theorem Conv.conv3 {G C : Option Addr → Nat → World → Prop} {T : Prop} (ht : ∀ a n W, C a n W → G a n W) (h : (∀ a n W, C a n W → G a n W) → T) : T := h ht
theorem Conv.conv {G C : World → Prop} {T : Prop} (ht : ∀ W, C W → G W) (h : (∀ W, C W → G W) → T) : T := h ht
end Go.Proofs.YtegopgpnjgikeaaGreatDoor
