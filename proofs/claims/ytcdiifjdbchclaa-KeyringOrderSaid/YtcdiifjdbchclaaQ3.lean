/- KeyringOrder: what is carried along, and what holds between the operations of the region that calls near thrice. -/
import Derived.Test.YtcdiifjdbchclaaQ4
namespace Go.Proofs.Ytcdiifjdbchclaa.P
open Go.RowKit Go.Proofs.YtcdiifjdbchclaaW.PrintWords Go.Proofs.YtcdiifjdbchclaaW.PrintLast Go.Proofs.YtcdiifjdbchclaaW.PrintMore
set_option linter.unusedVariables false
set_option linter.unusedSimpArgs false

structure AW (w w' : World) (b0 b1 b2 : Int) (x0 x1 x2 : Bool) : Prop where
  a : w'.heap[w.heap.size]? = some (.cells #[.int .u8 b0, .int .u8 b1, .int .u8 b2] 39 (0, 0))
  t : w'.heap[w.heap.size + 1]? = some (.cells #[.bool x0, .bool x1, .bool x2] 40 (0, 0))
  b : Below w.heap.size w w'
theorem AW.step {w w1 w2 : World} {b0 b1 b2 : Int} {x0 x1 x2 : Bool} (h : AW w w1 b0 b1 b2 x0 x1 x2) (k : Below w1.heap.size w1 w2) : AW w w2 b0 b1 b2 x0 x1 x2 :=
  ⟨blk_below h.a k, blk_below h.t k, below_step h.b k⟩
theorem AW.start (w : World) (b0 b1 b2 : Int) (x0 x1 x2 : Bool) : AW w ((w.alloc (.cells #[.int .u8 b0, .int .u8 b1, .int .u8 b2] 39)).alloc (.cells #[.bool x0, .bool x1, .bool x2] 40)) b0 b1 b2 x0 x1 x2 :=
  ⟨blk_alloc (blk_new _ _) _, by have := blk_new (w.alloc (.cells #[.int .u8 b0, .int .u8 b1, .int .u8 b2] 39)) (.cells #[.bool x0, .bool x1, .bool x2] 40); simpa using this,
   ((Below.refl _ _).alloc (Nat.le_refl _) _).alloc (by simp) _⟩
theorem AW.alloc {w w1 : World} {b0 b1 b2 : Int} {x0 x1 x2 : Bool} (h : AW w w1 b0 b1 b2 x0 x1 x2) (o : Obj) : AW w (w1.alloc o) b0 b1 b2 x0 x1 x2 := h.step ((Below.refl _ w1).alloc (Nat.le_refl _) o)
theorem AW.set {w w1 : World} {b0 b1 b2 : Int} {x0 x1 x2 : Bool} {g j : Nat} {v : Value} (h : AW w w1 b0 b1 b2 x0 x1 x2) (hg : w.heap.size + 1 < g) : AW w (w1.setCell ⟨g, j, none⟩ v) b0 b1 b2 x0 x1 x2 :=
  ⟨blk_far h.a (p := ⟨g, j, none⟩) (by show _ ≠ g; omega) v, blk_far h.t (p := ⟨g, j, none⟩) (by show _ ≠ g; omega) v, h.b.setCell (by show w.heap.size ≤ g; omega) v⟩

def upd (V : Nat → Value) (t : Nat) (v : Value) : Nat → Value := fun k => if k = t then v else V k
theorem upd_at (V : Nat → Value) (t : Nat) (v : Value) : upd V t v t = v := by simp [upd]
theorem upd_ne (V : Nat → Value) {t k : Nat} (v : Value) (h : k ≠ t) : upd V t v k = V k := by simp [upd, h]
def ptrV (g o : Nat) : Value := .pointer (some ⟨g, o, none⟩)
def ringV (p : Int × Int) : Value := .agg #[.int .i64 p.1, .int .i64 p.2]
def ringC (p : Int × Int) : Obj := .cells #[.int .i64 p.1, .int .i64 p.2] 23 (0, 0)
/-- The region's fixed data: the slot's number, the two arrays, their first block, the slot's block. -/
structure OP where
  n : Int
  s : Int
  b0 : Int
  b1 : Int
  b2 : Int
  x0 : Bool
  x1 : Bool
  x2 : Bool
  h : Nat
  g : Nat
def OP.p (c : OP) : Nat → Int × Int
  | 0 => (nearF c.s c.b0, nearN c.s c.x0)
  | 1 => (nearF c.s c.b1, nearN c.s c.x1)
  | _ => (nearF c.s c.b2, nearN c.s c.x2)
/-- What the loads, the addresses and the calls yield. -/
def OP.e (c : OP) : Nat → Value
  | 0 => .int .i64 c.s | 1 => ptrV c.h 0 | 2 => .int .u8 c.b0 | 3 => ptrV (c.h + 1) 0 | 4 => .bool c.x0 | 5 => ringV (c.p 0)
  | 6 => .int .i64 c.s | 7 => ptrV c.h 1 | 8 => .int .u8 c.b1 | 9 => ptrV (c.h + 1) 1 | 10 => .bool c.x1 | 11 => ringV (c.p 1)
  | 12 => .int .i64 c.s | 13 => ptrV c.h 2 | 14 => .int .u8 c.b2 | 15 => ptrV (c.h + 1) 2 | 16 => .bool c.x2 | _ => ringV (c.p 2)
structure R3 (c : OP) (w0 : World) (B : Nat) (L : Nat → Bool) (V : Nat → Value) (w : World) : Prop where
  aw : AW w0 w c.b0 c.b1 c.b2 c.x0 c.x1 c.x2
  nb : w.heap[c.g]? = some (.cells #[.int .i64 c.s] 3 (0, 0))
  hh : c.h = w0.heap.size
  hg : c.h + 1 < c.g
  gB : c.g < B
  sz : B ≤ w.heap.size
  val : ∀ i, i < 18 → L i = true → V (17 + i) = c.e i
  blk : ∀ j, j < 3 → L (18 + j) = true → ∃ k, V (9 + j) = ptrV k 0 ∧ B ≤ k ∧ w.heap[k]? = some (ringC (if L (21 + j) = true then c.p j else (0, 0)))
  dif : ∀ j j' k k', j < 3 → j' < 3 → j ≠ j' → L (18 + j) = true → L (18 + j') = true → V (9 + j) = ptrV k 0 → V (9 + j') = ptrV k' 0 → k ≠ k'
  ord : ∀ j, j < 3 → L (21 + j) = true → L (18 + j) = true

theorem put_ne {L : Nat → Bool} {i j : Nat} (h : j ≠ i) : (j == i || L j) = L j := by simp [h]
theorem R3.val_step {c : OP} {w0 : World} {B : Nat} {L : Nat → Bool} {V : Nat → Value} {w w' : World} (r : R3 c w0 B L V w) {i : Nat} (hi : i < 18) (k : Below w.heap.size w w') (v : Value) (hv : v = c.e i) :
    R3 c w0 B (fun j => j == i || L j) (upd V (17 + i) v) w' := by
  refine ⟨r.aw.step k, blk_below r.nb k, r.hh, r.hg, r.gB, Nat.le_trans r.sz k.size, fun m hm hL => ?_, fun j hj hL => ?_, fun j j' a b hj hj' hne h1 h2 h3 h4 => ?_, fun j hj h1 => ?_⟩
  · by_cases g : m = i
    · subst g; rw [upd_at]; exact hv
    · rw [upd_ne _ _ (by omega)]
      exact r.val m hm (by rw [← put_ne (L := L) g]; exact hL)
  · rw [put_ne (by omega)] at hL
    obtain ⟨a, h1, h2, h3⟩ := r.blk j hj hL
    refine ⟨a, by rw [upd_ne _ _ (by omega)]; exact h1, h2, ?_⟩
    rw [put_ne (by omega)]
    exact blk_below h3 k
  · rw [put_ne (by omega)] at h1 h2
    rw [upd_ne _ _ (by omega)] at h3 h4
    exact r.dif j j' a b hj hj' hne h1 h2 h3 h4
  · rw [put_ne (by omega)] at h1
    rw [put_ne (by omega)]
    exact r.ord j hj h1
theorem R3.alloc_step {c : OP} {w0 : World} {B : Nat} {L : Nat → Bool} {V : Nat → Value} {w : World} (r : R3 c w0 B L V w) {j : Nat} (hj : j < 3) (hL : L (18 + j) = false) :
    R3 c w0 B (fun m => m == 18 + j || L m) (upd V (9 + j) (ptrV w.heap.size 0)) (w.alloc (ringC (0, 0))) := by
  have hs := r.sz
  have k : Below w.heap.size w (w.alloc (ringC (0, 0))) := (Below.refl _ w).alloc (Nat.le_refl _) _
  refine ⟨r.aw.alloc _, blk_alloc r.nb _, r.hh, r.hg, r.gB, Nat.le_trans r.sz k.size, fun m hm hL2 => ?_, fun m hm hL2 => ?_, fun a b p q ha hb hne h1 h2 h3 h4 => ?_, fun m hm h1 => ?_⟩
  · rw [put_ne (by omega)] at hL2
    rw [upd_ne _ _ (by omega)]
    exact r.val m hm hL2
  · by_cases g : m = j
    · subst g
      have h21 : L (21 + m) = false := Bool.eq_false_iff.mpr fun x => by rw [r.ord m hm x] at hL; cases hL
      refine ⟨w.heap.size, upd_at _ _ _, hs, ?_⟩
      rw [put_ne (by omega), h21]
      exact blk_new w (ringC (0, 0))
    · rw [put_ne (by omega)] at hL2
      obtain ⟨p, h1, h2, h3⟩ := r.blk m hm hL2
      refine ⟨p, by rw [upd_ne _ _ (by omega)]; exact h1, h2, ?_⟩
      rw [put_ne (by omega)]
      exact blk_alloc h3 _
  · have old : ∀ m, m < 3 → m ≠ j → ∀ p, (m + 18 == 18 + j || L (18 + m)) = true → V (9 + m) = ptrV p 0 → p < w.heap.size := fun m hm hne p hl hp => by
      have hl2 : L (18 + m) = true := by
        have e : (m + 18 == 18 + j) = false := by simp; omega
        rw [e] at hl; exact hl
      obtain ⟨q, e1, _, e3⟩ := r.blk m hm hl2
      rw [hp] at e1
      have : p = q := by unfold ptrV at e1; injection e1 with e1; injection e1 with e1; injection e1
      rw [this]; exact blk_lt e3
    have pv : ∀ p q, ptrV p 0 = ptrV q 0 → p = q := fun p q e => by unfold ptrV at e; injection e with e; injection e with e; injection e
    by_cases ga : a = j
    · subst ga
      rw [upd_at] at h3
      rw [upd_ne _ _ (by omega)] at h4
      have := old b hb (Ne.symm hne) q (by rw [Nat.add_comm b 18]; exact h2) h4
      have := pv _ _ h3
      omega
    · by_cases gb : b = j
      · subst gb
        rw [upd_at] at h4
        rw [upd_ne _ _ (by omega)] at h3
        have := old a ha hne p (by rw [Nat.add_comm a 18]; exact h1) h3
        have := pv _ _ h4
        omega
      · rw [put_ne (by omega)] at h1 h2
        rw [upd_ne _ _ (by omega)] at h3 h4
        exact r.dif a b p q ha hb hne h1 h2 h3 h4
  · rw [put_ne (by omega)] at h1
    have := r.ord m hm h1
    show (18 + m == 18 + j || L (18 + m)) = true
    rw [this]; simp
theorem R3.store_step {c : OP} {w0 : World} {B : Nat} {L : Nat → Bool} {V : Nat → Value} {w : World} (r : R3 c w0 B L V w) {j k : Nat} (hj : j < 3) (h18 : L (18 + j) = true) (hk : V (9 + j) = ptrV k 0) :
    R3 c w0 B (fun m => m == 21 + j || L m) V ((w.setCell ⟨k, 0, none⟩ (.int .i64 (c.p j).1)).setCell ⟨k, 1, none⟩ (.int .i64 (c.p j).2)) := by
  have hs := r.sz
  have hh := r.hh
  have hg := r.hg
  have gB := r.gB
  have pv : ∀ p q, ptrV p 0 = ptrV q 0 → p = q := fun p q e => by unfold ptrV at e; injection e with e; injection e with e; injection e
  obtain ⟨k', e1, e2, e3⟩ := r.blk j hj h18
  have hkk : k = k' := pv _ _ (hk.symm.trans e1)
  subst hkk
  have far : ∀ {q : Nat} {t : TypeId} {cs : Array Value}, q ≠ k → w.heap[q]? = some (.cells cs t (0, 0)) → ((w.setCell ⟨k, 0, none⟩ (.int .i64 (c.p j).1)).setCell ⟨k, 1, none⟩ (.int .i64 (c.p j).2)).heap[q]? = some (.cells cs t (0, 0)) := fun hq h =>
    blk_far (blk_far h (p := ⟨k, 0, none⟩) hq _) (p := ⟨k, 1, none⟩) hq _
  refine ⟨(r.aw.set (by omega)).set (by omega), far (by omega) r.nb, r.hh, r.hg, r.gB, by simpa [World.setCell] using hs, fun m hm hL2 => ?_, fun m hm hL2 => ?_, fun a b p q ha hb hne h1 h2 h3 h4 => ?_, fun m hm h1 => ?_⟩
  · rw [put_ne (by omega)] at hL2
    exact r.val m hm hL2
  · rw [put_ne (by omega)] at hL2
    by_cases g : m = j
    · subst g
      refine ⟨k, hk, e2, ?_⟩
      have e : ((21 + m == 21 + m || L (21 + m)) = true) := by simp
      rw [if_pos e]
      unfold ringC at e3
      exact blk_put (blk_put e3 0 _ rfl) 1 _ rfl
    · obtain ⟨q, h1, h2, h3⟩ := r.blk m hm hL2
      refine ⟨q, h1, h2, ?_⟩
      rw [put_ne (by omega)]
      exact far (r.dif m j q k hm hj g hL2 h18 h1 hk) h3
  · rw [put_ne (by omega)] at h1 h2
    exact r.dif a b p q ha hb hne h1 h2 h3 h4
  · rw [put_ne (by omega)]
    by_cases g : m = j
    · subst g; exact h18
    · rw [put_ne (by omega)] at h1
      exact r.ord m hm h1
end Go.Proofs.Ytcdiifjdbchclaa.P
