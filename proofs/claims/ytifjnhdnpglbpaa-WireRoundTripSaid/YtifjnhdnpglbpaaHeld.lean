/- Rules for a region that draws its order where late operations mutate: quiet operations first, then whichever comes up. Conditions: each rule names its own. -/
import Derived.Test.YtifjnhdnpglbpaaFlow
import Derived.OrdersHeld
namespace Go.Rl
open Go.RowKit

section
variable {P : Program} {ops : Array Oper} {Q : Post} {N : Nat} {D : List Deferred} {S : World → Prop} {fuel : Nat} {listed : Array Bool} {l : Fr} {w : World} {d : Nat} {op : Op} {ty : TypeId} {pos : String} {aft : Array Edge}

/-- Nothing but the plain end. -/
def calm (Q : Post) : Post := fun e a w => e = .normal ∧ Q .normal a w
def HeldJ (P : Program) (ops : Array Oper) (Q : Post) (N : Nat) (D : List Deferred) (S : World → Prop) (fuel : Nat) (listed : Array Bool) (l : Fr) (w : World) : Prop := ∀ a, At N D l a → wpAnyH P .any ops (calm Q) S fuel listed a w
/-- Behind one operation: S anew, and on. -/
def HPost (P : Program) (ops : Array Oper) (Q : Post) (S : World → Prop) (fuel : Nat) (listed : Array Bool) : Post := fun e a w => e = .normal ∧ S w ∧ wpAnyH P .any ops (calm Q) S fuel listed a w

theorem c_held {id : Nat} {os : List Oper} (S : World → Prop) (n : Nat) (hn : os.toArray.size = n) (hm : P.follows .mixedOrders = true)
    (h : HeldJ P os.toArray Q N D S n (Array.replicate n false) l w.drew) : CodeJ P Q N D l w (.region id os.toArray true) := fun a ha => by
  subst hn
  exact wp_mono (wp_region_held (Q := calm Q) (S := S) hm (h a ha)) fun e a w he => by obtain ⟨rfl, h⟩ := he; exact h

def okB (ops : Array Oper) (listed : Array Bool) (i : Nat) : Bool := Region.noSelect ops && Region.free .any ops listed i && (Region.ready .any ops listed).contains i

theorem h_run (i : Nat) {v : Value} (hi : ops[i]? = some ⟨some d, op, ty, pos, aft, none⟩) (hB : okB ops listed i = true) (hd : Nat.blt d N = true) (hS : S w)
    (hrun : ∀ ρ w', Agree l ρ → S w' → (execOp ρ ⟨some d, op, ty, pos, aft, none⟩).run P w' = .ok (.value v) w')
    (k : HeldJ P ops Q N D S fuel (listed.setIfInBounds i true) ((d, v) :: l) w) : HeldJ P ops Q N D S (fuel + 1) listed l w := fun a ha => by
  simp only [okB, Bool.and_eq_true] at hB
  exact wpAnyH_take hi hB.1.1 hB.1.2 hB.2 (fun c a w h => by obtain ⟨h, _⟩ := h; cases h) (.inl ⟨rfl, fun w' hw' => hrun a.eval w' (fun x v hx => ha.ev hx) hw'⟩) hS (k _ (ha.put hd v))
theorem h_pure (i : Nat) {xs : List Operand} {vs : List Value} {r : Value} {f : List Value → Sem Value} (hi : ops[i]? = some ⟨some d, op, ty, pos, aft, none⟩) (he : ∀ ρ, execOp ρ ⟨some d, op, ty, pos, aft, none⟩ = (do pure (Next.value (← f (xs.map ρ))) : Sem Next))
    (hp : evs l xs = some vs) (hB : okB ops listed i = true) (hd : Nat.blt d N = true) (hS : S w) (hrun : ∀ w', S w' → (f vs).run P w' = .ok r w')
    (k : HeldJ P ops Q N D S fuel (listed.setIfInBounds i true) ((d, r) :: l) w) : HeldJ P ops Q N D S (fuel + 1) listed l w :=
  h_run i hi hB hd hS (fun ρ w' hρ hw' => by rw [he, evs_ok hρ hp, Sem.run_bind, hrun w' hw']; rfl) k
theorem evs1 {x : Operand} {v : Value} (h : ev l x = some v) : evs l [x] = some [v] := by simp [evs, h]
theorem evs2 {x y : Operand} {u v : Value} (h : ev l x = some u) (h' : ev l y = some v) : evs l [x, y] = some [u, v] := by simp [evs, h, h']
theorem h_move (i : Nat) {x : Operand} {v : Value} (hi : ops[i]? = some ⟨some d, .move x, ty, pos, aft, none⟩) (hx : ev l x = some v) (hB : okB ops listed i = true) (hd : Nat.blt d N = true) (hS : S w)
    (k : HeldJ P ops Q N D S fuel (listed.setIfInBounds i true) ((d, v) :: l) w) : HeldJ P ops Q N D S (fuel + 1) listed l w :=
  h_run i hi hB hd hS (fun ρ w' hρ _ => by simp [execOp, hρ x _ hx]) k
theorem h_load (i : Nat) {t : TypeId} {x : Operand} {u r : Value} (hi : ops[i]? = some ⟨some d, .load t x, ty, pos, aft, none⟩) (hx : ev l x = some u) (hB : okB ops listed i = true) (hd : Nat.blt d N = true) (hS : S w) (hrun : ∀ w', S w' → (Instr.loadAt t u).run P w' = .ok r w')
    (k : HeldJ P ops Q N D S fuel (listed.setIfInBounds i true) ((d, r) :: l) w) : HeldJ P ops Q N D S (fuel + 1) listed l w :=
  h_pure i (xs := [x]) (f := fun | [a] => Instr.loadAt t a | _ => stuck "") hi (fun _ => rfl) (evs1 hx) hB hd hS hrun k
theorem h_fieldAddr (i : Nat) {s : TypeId} {n : Nat} {x : Operand} {u r : Value} (hi : ops[i]? = some ⟨some d, .fieldAddr s x n, ty, pos, aft, none⟩) (hx : ev l x = some u) (hB : okB ops listed i = true) (hd : Nat.blt d N = true) (hS : S w) (hrun : ∀ w', S w' → (Instr.fieldAt s u n).run P w' = .ok r w')
    (k : HeldJ P ops Q N D S fuel (listed.setIfInBounds i true) ((d, r) :: l) w) : HeldJ P ops Q N D S (fuel + 1) listed l w :=
  h_pure i (xs := [x]) (f := fun | [a] => Instr.fieldAt s a n | _ => stuck "") hi (fun _ => rfl) (evs1 hx) hB hd hS hrun k
theorem h_field (i : Nat) {s : TypeId} {n : Nat} {x : Operand} {u r : Value} (hi : ops[i]? = some ⟨some d, .field s x n, ty, pos, aft, none⟩) (hx : ev l x = some u) (hB : okB ops listed i = true) (hd : Nat.blt d N = true) (hS : S w) (hrun : ∀ w', S w' → (Instr.field s u n).run P w' = .ok r w')
    (k : HeldJ P ops Q N D S fuel (listed.setIfInBounds i true) ((d, r) :: l) w) : HeldJ P ops Q N D S (fuel + 1) listed l w :=
  h_pure i (xs := [x]) (f := fun | [a] => Instr.field s a n | _ => stuck "") hi (fun _ => rfl) (evs1 hx) hB hd hS hrun k
theorem h_conv (i : Nat) {s t : TypeId} {x : Operand} {u r : Value} (hi : ops[i]? = some ⟨some d, .convert s t x, ty, pos, aft, none⟩) (hx : ev l x = some u) (hB : okB ops listed i = true) (hd : Nat.blt d N = true) (hS : S w) (hrun : ∀ w', S w' → (convert s t u).run P w' = .ok r w')
    (k : HeldJ P ops Q N D S fuel (listed.setIfInBounds i true) ((d, r) :: l) w) : HeldJ P ops Q N D S (fuel + 1) listed l w :=
  h_pure i (xs := [x]) (f := fun | [a] => convert s t a | _ => stuck "") hi (fun _ => rfl) (evs1 hx) hB hd hS hrun k
theorem h_bin (i : Nat) {b : BinOp} {t t2 : TypeId} {x y : Operand} {u v r : Value} (hi : ops[i]? = some ⟨some d, .binOp b t x y t2, ty, pos, aft, none⟩) (hx : ev l x = some u) (hy : ev l y = some v) (hB : okB ops listed i = true) (hd : Nat.blt d N = true) (hS : S w) (hrun : ∀ w', S w' → (bin b t x y u v).run P w' = .ok r w')
    (k : HeldJ P ops Q N D S fuel (listed.setIfInBounds i true) ((d, r) :: l) w) : HeldJ P ops Q N D S (fuel + 1) listed l w :=
  h_pure i (xs := [x, y]) (f := fun | [a, c] => bin b t x y a c | _ => stuck "") hi (fun _ => rfl) (evs2 hx hy) hB hd hS hrun k
theorem h_indexAddr (i : Nat) {t : TypeId} {x y : Operand} {u v r : Value} (hi : ops[i]? = some ⟨some d, .indexAddr t x y, ty, pos, aft, none⟩) (hx : ev l x = some u) (hy : ev l y = some v) (hB : okB ops listed i = true) (hd : Nat.blt d N = true) (hS : S w) (hrun : ∀ w', S w' → (Instr.indexAt t u v).run P w' = .ok r w')
    (k : HeldJ P ops Q N D S fuel (listed.setIfInBounds i true) ((d, r) :: l) w) : HeldJ P ops Q N D S (fuel + 1) listed l w :=
  h_pure i (xs := [x, y]) (f := fun | [a, c] => Instr.indexAt t a c | _ => stuck "") hi (fun _ => rfl) (evs2 hx hy) hB hd hS hrun k
theorem h_len (i : Nat) {xs : List Operand} {ts : Array TypeId} {vs : List Value} {r : Value} (hi : ops[i]? = some ⟨some d, .call { callee := .builtin .len, args := xs.toArray, argTypes := ts }, ty, pos, aft, none⟩) (hp : evs l xs = some vs) (hB : okB ops listed i = true) (hd : Nat.blt d N = true) (hS : S w) (hrun : ∀ w', S w' → (Builtin.len_ ts ty vs.toArray).run P w' = .ok r w')
    (k : HeldJ P ops Q N D S fuel (listed.setIfInBounds i true) ((d, r) :: l) w) : HeldJ P ops Q N D S (fuel + 1) listed l w :=
  h_pure i (xs := xs) (f := fun vs => Builtin.len_ ts ty vs.toArray) hi (fun ρ => by simp only [execOp, resolve, invoke, builtin, pure_bind, List.map_toArray]) hp hB hd hS hrun k

/-- One operation that comes up, carried out. -/
theorem wpOp_of_list {o : Oper} {i : Nat} {listed' : Array Bool} {a : Act} (hi : ops[i]? = some o) (h : wpList P ops (HPost P ops Q S fuel listed') [o] a w) :
    wpOp P ops (calm Q) i (fun a' w' => S w' ∧ wpAnyH P .any ops (calm Q) S fuel listed' a' w') a w := by
  unfold wpOp
  simp only [hi]
  unfold wpList at h
  split
  · rename_i hw
    rw [if_pos hw] at h
    rcases h with h | ⟨_, _, _, h, _⟩
    · refine .inl ?_
      unfold Oper.wp at *
      generalize (execOp a.eval o).run P w = r at *
      cases r with
      | ok n w' =>
        cases n <;> simp only [Oper.upon] at h ⊢
        case value u => exact h.2
        case skip => exact h.2
        case defer dd => exact h.2
        case enter f args =>
          refine Calls.mono h fun e w'' he => ?_
          cases e with
          | returned u => exact he.2
          | panicked c => obtain ⟨he, _⟩ := he; cases he
          | outgrown => obtain ⟨_, _, he, _⟩ := he; cases he
        case row row args => exact Rows.mono h fun u w'' he => he.2
      | halt x w' =>
        cases x <;> simp only [Oper.upon] at h ⊢
        case panic u => obtain ⟨he, _⟩ := h; cases he
    · cases h
  · rename_i hw
    rw [if_neg hw] at h
    exact h.2
theorem h_one (i : Nat) {o : Oper} (hr : Region.ready .any ops listed = [i]) (hi : ops[i]? = some o) (h : OpsJ P ops (HPost P ops Q S fuel (listed.setIfInBounds i true)) N D l w [o]) : HeldJ P ops Q N D S (fuel + 1) listed l w := fun a ha =>
  wpAnyH_all hr (by simp) fun j hj => by
    obtain rfl : j = i := by simpa using hj
    exact wpOp_of_list hi (h a ha)
theorem h_two (i j : Nat) {o u : Oper} (hr : Region.ready .any ops listed = [i, j]) (hi : ops[i]? = some o) (hj : ops[j]? = some u) (h : OpsJ P ops (HPost P ops Q S fuel (listed.setIfInBounds i true)) N D l w [o])
    (h' : OpsJ P ops (HPost P ops Q S fuel (listed.setIfInBounds j true)) N D l w [u]) : HeldJ P ops Q N D S (fuel + 1) listed l w := fun a ha =>
  wpAnyH_all hr (by simp) fun k hk => by
    rcases (by simpa using hk : k = i ∨ k = j) with rfl | rfl
    · exact wpOp_of_list hi (h a ha)
    · exact wpOp_of_list hj (h' a ha)
theorem h_next (hS : S w) (k : HeldJ P ops Q N D S fuel listed l w) : OpsJ P ops (HPost P ops Q S fuel listed) N D l w [] := fun a ha => ⟨rfl, hS, k a ha⟩
/-- Several ways that meet. -/
theorem h_meet {α : Type} (fr : α → Fr) (H : α → World → Prop) (listed' : Array Bool) (fuel' : Nat) (k : ∀ x w', H x w' → HeldJ P ops Q N D S fuel' listed' (fr x) w')
    (h : (∀ l' w', (∃ x, Sub (fr x) l' ∧ H x w') → HeldJ P ops Q N D S fuel' listed' l' w') → HeldJ P ops Q N D S fuel listed l w) : HeldJ P ops Q N D S fuel listed l w :=
  h fun _ w' ⟨x, hs, hH⟩ a ha => k x w' hH a (ha.weak hs)
theorem h_eq {listed' : Array Bool} (he : listed = listed') (h : HeldJ P ops Q N D S fuel listed' l w) : HeldJ P ops Q N D S fuel listed l w := he ▸ h
theorem h_done (hr : Region.ready .any ops listed = []) (h : NormJ Q N D l w) : HeldJ P ops Q N D S fuel listed l w := fun a ha => wpAnyH_done hr ⟨rfl, h a ha⟩ _
end
end Go.Rl
