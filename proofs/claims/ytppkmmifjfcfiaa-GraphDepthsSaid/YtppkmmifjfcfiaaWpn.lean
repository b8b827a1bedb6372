/- Rules for a walk through code that sends and receives in a lone goroutine: as the walk's own rules, but for frames of the kind 'normal'. -/
import Derived.Test.YtppkmmifjfcfiaaProg
import Derived.Calls
import Derived.Conc.LoneCalls
import Derived.Conc.LoneSelectN
namespace Go.Proofs.Ytppkmmifjfcfiaa.N
open Go.Conc
set_option linter.unusedVariables false

/-- As 'Code.wp', for frames of the kind 'normal' alone. -/
def WpN (P : Program) (c : Code) (Q : Exit → Act → World → Prop) (a : Act) (w : World) : Prop :=
  ∀ (b : Frame), b.kind = .normal → ∀ (k : List Item) (cs : List Frame), ∃ e a' w', Q e a' w' ∧ Arrives P (lone (b.at a (.code c :: k)) cs w) b k cs e a' w'
/-- What is left of a region, for frames of the kind 'normal' alone. -/
def RegN (P : Program) (ops : Array Oper) (Q : Exit → Act → World → Prop) (l : List Nat) (a : Act) (w : World) : Prop :=
  ∀ (b : Frame), b.kind = .normal → ∀ (k : List Item) (cs : List Frame), ∃ e a' w', Q e a' w' ∧ Arrives P (lone (b.at a (.inRegion ops l :: k)) cs w) b k cs e a' w'

section
variable {P : Program} {Q : Exit → Act → World → Prop} {a : Act} {w : World}

theorem WpN.of_wp {c : Code} (h : c.wp P Q a w) : WpN P c Q a w := fun b _ k cs => h b k cs
theorem WpN.mono {c : Code} {Q' : Exit → Act → World → Prop} (h : WpN P c Q a w) (hq : ∀ e a w, Q e a w → Q' e a w) : WpN P c Q' a w :=
  fun b hb k cs => let ⟨e, a', w', q, r⟩ := h b hb k cs; ⟨e, a', w', hq _ _ _ q, r⟩

theorem WpN.seq {x y : Code} (h : WpN P x (Exit.then (WpN P y Q) Q) a w) : WpN P (.seq x y) Q a w := by
  intro b hb k cs
  obtain ⟨e, a1, w1, hq, hr⟩ := h b hb (.code y :: k) cs
  have pass : ∀ {e' : Exit}, e' ≠ .normal → Arrives P (lone (b.at a (.code x :: .code y :: k)) cs w) b (.code y :: k) cs e' a1 w1 → Arrives P (lone (b.at a (.code (.seq x y) :: k)) cs w) b k cs e' a1 w1 :=
    fun hne hr => .of_steps (.one step_seq) (.pass (x := .code y) rfl (fun _ _ => .inl hne) hr)
  cases e with
  | normal =>
    obtain ⟨e2, a2, w2, hq2, hr2⟩ := hq b hb k cs
    exact ⟨e2, a2, w2, hq2, .of_steps (.head step_seq hr) hr2⟩
  | exit id => exact ⟨_, a1, w1, hq, pass (by simp) hr⟩
  | goto l => exact ⟨_, a1, w1, hq, pass (by simp) hr⟩
  | ret => exact ⟨_, a1, w1, hq, pass (by simp) hr⟩
  | panic ch => exact ⟨_, a1, w1, hq, pass (by simp) hr⟩
  | outgrown => exact ⟨_, a1, w1, hq, pass (by simp) hr⟩
/-- The first part holds no communication: it is walked by the walk's own words; what follows stands behind a variable. -/
theorem WpN.seq_k {x y : Code} (h : ∀ K : Act → World → Prop, (∀ a w, WpN P y Q a w → K a w) → x.wp P (Exit.then K Q) a w) : WpN P (.seq x y) Q a w :=
  .seq (.of_wp (h _ fun _ _ h => h))
theorem WpN.skip (h : Q .normal a w) : WpN P .skip Q a w := .of_wp (wp_skip h)
theorem WpN.exit {id : Nat} (h : Q (.exit id) a w) : WpN P (.exit id) Q a w := .of_wp (wp_exit h)
theorem WpN.cond {c : Operand} {x y : Code} {t : Bool} (hc : a.eval c = .bool t) (h : WpN P (if t then x else y) Q a w) : WpN P (.cond c x y) Q a w :=
  fun b hb k cs => let ⟨e, a', w', q, r⟩ := h b hb k cs; ⟨e, a', w', q, .of_steps (.one (step_cond hc)) r⟩
theorem WpN.block {id : Nat} {c : Code} (h : WpN P c (Exit.inBlock id Q) a w) : WpN P (.block id c) Q a w := by
  intro b hb k cs
  obtain ⟨e, a1, w1, hq, hr⟩ := h b hb (.inBlock id :: k) cs
  cases e with
  | normal => exact ⟨.normal, a1, w1, hq, .head step_block (Steps.trans hr (.one step_inBlock))⟩
  | exit id' =>
    by_cases hid : id' = id
    · subst hid
      simp only [Exit.inBlock, if_true] at hq
      exact ⟨.normal, a1, w1, hq, .head step_block (hr k (by simp [exitTo]))⟩
    · simp only [Exit.inBlock, hid, if_false] at hq
      refine ⟨.exit id', a1, w1, hq, fun k' hk => .head step_block (hr k' ?_)⟩
      have hne : (id == id') = false := by simpa using fun h => hid h.symm
      simp [exitTo, hne, hk]
  | goto l => exact ⟨_, a1, w1, hq, fun k' hk => .head step_block (hr k' (by simp [gotoIn, hk]))⟩
  | ret => exact ⟨_, a1, w1, hq, .of_steps (.one step_block) hr⟩
  | panic ch => exact ⟨_, a1, w1, hq, .of_steps (.one step_block) hr⟩
  | outgrown => exact ⟨_, a1, w1, hq, .of_steps (b := b) (k := k) (cs := cs) (e := .outgrown) (.one step_block) hr⟩
theorem WpN.loop {c : Code} (I : Nat → Act → World → Prop) {n : Nat} (h0 : I n a w)
    (round : ∀ n a w, I n a w → WpN P c (Exit.then (fun a' w' => ∃ m, m < n ∧ I m a' w') Q) a w) : WpN P (.loop c) Q a w := by
  intro b hb k cs
  have key : ∀ n a w, I n a w → ∃ e a' w', Q e a' w' ∧ Arrives P (lone (b.at a (.code c :: .inLoop c :: k)) cs w) b k cs e a' w' := by
    intro n
    induction n using Nat.strongRecOn with
    | _ n ih =>
      intro a w hI
      obtain ⟨e, a1, w1, hq, hr⟩ := round n a w hI b hb (.inLoop c :: k) cs
      cases e with
      | normal =>
        obtain ⟨m, hm, hI1⟩ := hq
        obtain ⟨e2, a2, w2, hq2, hr2⟩ := ih m hm a1 w1 hI1
        exact ⟨e2, a2, w2, hq2, .of_steps (Steps.trans hr (.one step_inLoop)) hr2⟩
      | exit id => exact ⟨_, a1, w1, hq, .pass (x := .inLoop c) rfl (fun _ _ => .inl (by simp)) hr⟩
      | goto l => exact ⟨_, a1, w1, hq, .pass (x := .inLoop c) rfl (fun _ _ => .inl (by simp)) hr⟩
      | ret => exact ⟨_, a1, w1, hq, .pass (x := .inLoop c) rfl (fun _ _ => .inl (by simp)) hr⟩
      | panic ch => exact ⟨_, a1, w1, hq, .pass (x := .inLoop c) rfl (fun _ _ => .inl (by simp)) hr⟩
      | outgrown => exact ⟨_, a1, w1, hq, .pass (x := .inLoop c) rfl (fun _ _ => .inl (by simp)) hr⟩
  obtain ⟨e, a', w', hq, hr⟩ := key n a w h0
  exact ⟨e, a', w', hq, .of_steps (.one step_loop) hr⟩

theorem WpN.region {id : Nat} {ops : Array Oper} (h : RegN P ops Q (List.range ops.size) a w) : WpN P (.region id ops false) Q a w :=
  fun b hb k cs => let ⟨e, a', w', q, r⟩ := h b hb k cs; ⟨e, a', w', q, .of_steps (.one step_region) r⟩
theorem RegN.nil {ops : Array Oper} (h : Q .normal a w) : RegN P ops Q [] a w := fun b _ k cs => ⟨.normal, a, w, h, .one step_region_end⟩
theorem RegN.value {ops : Array Oper} {i : Nat} {rest : List Nat} {o : Oper} {v : Value} (ho : ops[i]? = some o) (hw : Region.wanted o (yielded ops a.tmps) = true) (hr : (execOp a.eval o).run P w = .ok (.value v) w)
    (h : RegN P ops Q rest (a.put o.dst v) w) : RegN P ops Q (i :: rest) a w := by
  intro b hb k cs
  obtain ⟨e, a', w', hq, ha⟩ := h b hb k cs
  refine ⟨e, a', w', hq, .of_steps (.one (step_lone_go ?_)) ha⟩
  have hfin : (b.at a (.inRegion ops (i :: rest) :: k)).finish v = b.at (a.put o.dst v) (.inRegion ops rest :: k) := by rw [Frame.finish_at, ho]; rfl
  rw [stepG_op ho hw, ← hfin]
  simp [stepG.apply, hr]
theorem RegN.send {ops : Array Oper} {i : Nat} {rest : List Nat} {o : Oper} {g cap s r : Nat} {buf : Array Value} {tm : Bool} {v z : Value} (ho : ops[i]? = some o) (hw : Region.wanted o (yielded ops a.tmps) = true)
    (hr : (execOp a.eval o).run P w = .ok (.comm #[scase g v z] true .send) w) (hc : w.heap[g]? = some (.chan cap buf false s r tm)) (hroom : buf.size < cap)
    (h : RegN P ops Q rest (a.put o.dst undef) (w.setChan g cap (buf.push v) false (s + 1) r tm)) : RegN P ops Q (i :: rest) a w := by
  intro b hb k cs
  obtain ⟨e, a', w', hq, ha⟩ := h b hb k cs
  refine ⟨e, a', w', hq, .of_steps (.one ?_) ha⟩
  have hfin : (b.at a (.inRegion ops (i :: rest) :: k)).finish undef = b.at (a.put o.dst undef) (.inRegion ops rest :: k) := by rw [Frame.finish_at, ho]; rfl
  rw [← hfin]
  exact step_lone_send_room (stepG_comm ho hw (by rw [hb]; simp) hr) hc hroom
theorem RegN.recv {ops : Array Oper} {i : Nat} {rest : List Nat} {o : Oper} {g cap s r : Nat} {buf : Array Value} {tm closed : Bool} {z : Value} (ho : ops[i]? = some o) (hw : Region.wanted o (yielded ops a.tmps) = true)
    (hr : (execOp a.eval o).run P w = .ok (.comm #[rcase g z] true (.recv false)) w) (hc : w.heap[g]? = some (.chan cap buf closed s r tm)) (hsome : 0 < buf.size)
    (h : RegN P ops Q rest (a.put o.dst (buf.getD 0 undef)) (w.setChan g cap (buf.extract 1 buf.size) closed s (r + 1) tm)) : RegN P ops Q (i :: rest) a w := by
  intro b hb k cs
  obtain ⟨e, a', w', hq, ha⟩ := h b hb k cs
  refine ⟨e, a', w', hq, .of_steps (.one ?_) ha⟩
  have hfin : (b.at a (.inRegion ops (i :: rest) :: k)).finish (buf.getD 0 undef) = b.at (a.put o.dst (buf.getD 0 undef)) (.inRegion ops rest :: k) := by rw [Frame.finish_at, ho]; rfl
  rw [← hfin]
  exact step_lone_recv_buf false (stepG_comm ho hw (by rw [hb]; simp) hr) hc hsome

theorem calls_of_wpN {f : FuncId} {fn : Func} {c : Code} {args : Array Value} {R : Ending → World → Prop} (hf : P.funcs[f]? = some fn) (hb : fn.body = some c)
    (h : WpN P c (bodyPost P fn R) { tmps := args ++ Array.replicate (fn.ntmps - args.size) undef, defers := [] } w) : Calls P f args w R := by
  intro cs
  let b : Frame := { (default : Frame) with fn := f, kind := .normal }
  have henter : Frame.enter P f args .normal = b.at { tmps := args ++ Array.replicate (fn.ntmps - args.size) undef, defers := [] } [.code c] := by
    simp [Frame.enter, Frame.at, hf, hb, b]
  obtain ⟨e, a', w', hq, harr⟩ := h b rfl [] cs
  rw [← henter] at harr
  cases e with
  | normal =>
    obtain ⟨hd, v, hr, hR⟩ := hq
    exact ⟨.returned v, w', _, hR, Steps.trans harr (.one step_end), rfl, rfl, hd, rfl, fn, hf, hr⟩
  | ret =>
    obtain ⟨hd, v, hr, hR⟩ := hq
    obtain ⟨todo, hs⟩ := harr
    exact ⟨.returned v, w', _, hR, hs, rfl, rfl, hd, rfl, fn, hf, hr⟩
  | panic chain =>
    obtain ⟨hd, hR⟩ := hq
    obtain ⟨todo, hs⟩ := harr
    exact ⟨.panicked chain, w', _, hR, hs, rfl, rfl, hd, fn, hf⟩
  | exit id => exact hq.elim
  | goto l => exact hq.elim
  | outgrown => exact ⟨.outgrown, w', b, hq, harr.resolve_left (by simp [b]), rfl, trivial⟩
end
end Go.Proofs.Ytppkmmifjfcfiaa.N
