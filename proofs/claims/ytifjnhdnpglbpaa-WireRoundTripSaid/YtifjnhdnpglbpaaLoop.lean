/- Loops over several values. Conditions: each rule names its own. -/
import Derived.Test.YtifjnhdnpglbpaaStep
namespace Go.Rl
open Go.RowKit
section
variable {P : Program} {Q : Post} {N : Nat} {D : List Deferred} {l : Fr} {w : World}
theorem c_loop2 {c : Code} {α β : Type} (fr : α → β → Fr) (H : α → β → World → Prop) (mu : α → β → Nat) (x0 : α) (y0 : β) (hs : Sub (fr x0 y0) l) (h0 : H x0 y0 w)
    (round : ∀ x y w', H x y w' → CodeJ P (Exit.then (fun a w'' => ∃ x' y', At N D (fr x' y') a ∧ H x' y' w'' ∧ mu x' y' < mu x y) Q) N D (fr x y) w' c) : CodeJ P Q N D l w (.loop c) :=
  c_loop (α := α × β) (fun p => fr p.1 p.2) (fun p => H p.1 p.2) (fun p => mu p.1 p.2) (x0, y0) hs h0 fun p w' h a ha =>
    wp_mono (round p.1 p.2 w' h a ha) fun e a' w'' hq => by
      cases e with
      | normal =>
        obtain ⟨x', y', h1, h2, h3⟩ := hq
        exact ⟨(x', y'), h1, h2, h3⟩
      | _ => exact hq
theorem n_round2 {α β : Type} {fr : α → β → Fr} {H : α → β → World → Prop} {mu : α → β → Nat} {m : Nat} (x : α) (y : β) (hs : Sub (fr x y) l) (hH : H x y w) (hm : mu x y < m) : NormJ (Exit.then (fun a w'' => ∃ x' y', At N D (fr x' y') a ∧ H x' y' w'' ∧ mu x' y' < m) Q) N D l w :=
  fun _ ha => ⟨x, y, ha.weak hs, hH, hm⟩
theorem c_loop3 {c : Code} {α β γ : Type} (fr : α → β → γ → Fr) (H : α → β → γ → World → Prop) (mu : α → β → γ → Nat) (x0 : α) (y0 : β) (z0 : γ) (hs : Sub (fr x0 y0 z0) l) (h0 : H x0 y0 z0 w)
    (round : ∀ x y z w', H x y z w' → CodeJ P (Exit.then (fun a w'' => ∃ x' y' z', At N D (fr x' y' z') a ∧ H x' y' z' w'' ∧ mu x' y' z' < mu x y z) Q) N D (fr x y z) w' c) : CodeJ P Q N D l w (.loop c) :=
  c_loop (α := α × β × γ) (fun p => fr p.1 p.2.1 p.2.2) (fun p => H p.1 p.2.1 p.2.2) (fun p => mu p.1 p.2.1 p.2.2) (x0, y0, z0) hs h0 fun p w' h a ha =>
    wp_mono (round p.1 p.2.1 p.2.2 w' h a ha) fun e a' w'' hq => by
      cases e with
      | normal =>
        obtain ⟨x', y', z', h1, h2, h3⟩ := hq
        exact ⟨(x', y', z'), h1, h2, h3⟩
      | _ => exact hq
theorem n_round3 {α β γ : Type} {fr : α → β → γ → Fr} {H : α → β → γ → World → Prop} {mu : α → β → γ → Nat} {m : Nat} (x : α) (y : β) (z : γ) (hs : Sub (fr x y z) l) (hH : H x y z w) (hm : mu x y z < m) : NormJ (Exit.then (fun a w'' => ∃ x' y' z', At N D (fr x' y' z') a ∧ H x' y' z' w'' ∧ mu x' y' z' < m) Q) N D l w :=
  fun _ ha => ⟨x, y, z, ha.weak hs, hH, hm⟩
theorem c_loop4 {c : Code} {α β γ δ : Type} (fr : α → β → γ → δ → Fr) (H : α → β → γ → δ → World → Prop) (mu : α → β → γ → δ → Nat) (x0 : α) (y0 : β) (z0 : γ) (u0 : δ) (hs : Sub (fr x0 y0 z0 u0) l) (h0 : H x0 y0 z0 u0 w)
    (round : ∀ x y z u w', H x y z u w' → CodeJ P (Exit.then (fun a w'' => ∃ x' y' z' u', At N D (fr x' y' z' u') a ∧ H x' y' z' u' w'' ∧ mu x' y' z' u' < mu x y z u) Q) N D (fr x y z u) w' c) : CodeJ P Q N D l w (.loop c) :=
  c_loop (α := α × β × γ × δ) (fun p => fr p.1 p.2.1 p.2.2.1 p.2.2.2) (fun p => H p.1 p.2.1 p.2.2.1 p.2.2.2) (fun p => mu p.1 p.2.1 p.2.2.1 p.2.2.2) (x0, y0, z0, u0) hs h0 fun p w' h a ha =>
    wp_mono (round p.1 p.2.1 p.2.2.1 p.2.2.2 w' h a ha) fun e a' w'' hq => by
      cases e with
      | normal =>
        obtain ⟨x', y', z', u', h1, h2, h3⟩ := hq
        exact ⟨(x', y', z', u'), h1, h2, h3⟩
      | _ => exact hq
theorem n_round4 {α β γ δ : Type} {fr : α → β → γ → δ → Fr} {H : α → β → γ → δ → World → Prop} {mu : α → β → γ → δ → Nat} {m : Nat} (x : α) (y : β) (z : γ) (u : δ) (hs : Sub (fr x y z u) l) (hH : H x y z u w) (hm : mu x y z u < m) : NormJ (Exit.then (fun a w'' => ∃ x' y' z' u', At N D (fr x' y' z' u') a ∧ H x' y' z' u' w'' ∧ mu x' y' z' u' < m) Q) N D l w :=
  fun _ ha => ⟨x, y, z, u, ha.weak hs, hH, hm⟩
theorem c_loop5 {c : Code} {α β γ δ ε : Type} (fr : α → β → γ → δ → ε → Fr) (H : α → β → γ → δ → ε → World → Prop) (mu : α → β → γ → δ → ε → Nat) (x0 : α) (y0 : β) (z0 : γ) (u0 : δ) (v0 : ε) (hs : Sub (fr x0 y0 z0 u0 v0) l) (h0 : H x0 y0 z0 u0 v0 w)
    (round : ∀ x y z u v w', H x y z u v w' → CodeJ P (Exit.then (fun a w'' => ∃ x' y' z' u' v', At N D (fr x' y' z' u' v') a ∧ H x' y' z' u' v' w'' ∧ mu x' y' z' u' v' < mu x y z u v) Q) N D (fr x y z u v) w' c) : CodeJ P Q N D l w (.loop c) :=
  c_loop (α := α × β × γ × δ × ε) (fun p => fr p.1 p.2.1 p.2.2.1 p.2.2.2.1 p.2.2.2.2) (fun p => H p.1 p.2.1 p.2.2.1 p.2.2.2.1 p.2.2.2.2) (fun p => mu p.1 p.2.1 p.2.2.1 p.2.2.2.1 p.2.2.2.2) (x0, y0, z0, u0, v0) hs h0 fun p w' h a ha =>
    wp_mono (round p.1 p.2.1 p.2.2.1 p.2.2.2.1 p.2.2.2.2 w' h a ha) fun e a' w'' hq => by
      cases e with
      | normal =>
        obtain ⟨x', y', z', u', v', h1, h2, h3⟩ := hq
        exact ⟨(x', y', z', u', v'), h1, h2, h3⟩
      | _ => exact hq
theorem n_round5 {α β γ δ ε : Type} {fr : α → β → γ → δ → ε → Fr} {H : α → β → γ → δ → ε → World → Prop} {mu : α → β → γ → δ → ε → Nat} {m : Nat} (x : α) (y : β) (z : γ) (u : δ) (v : ε) (hs : Sub (fr x y z u v) l) (hH : H x y z u v w) (hm : mu x y z u v < m) : NormJ (Exit.then (fun a w'' => ∃ x' y' z' u' v', At N D (fr x' y' z' u' v') a ∧ H x' y' z' u' v' w'' ∧ mu x' y' z' u' v' < m) Q) N D l w :=
  fun _ ha => ⟨x, y, z, u, v, ha.weak hs, hH, hm⟩
end
end Go.Rl
