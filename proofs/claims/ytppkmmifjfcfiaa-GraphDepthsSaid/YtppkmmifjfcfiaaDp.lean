/- graph.Depths: for every valid table and root the call returns the distances; otherwise ErrArg. -/
import Derived.Test.YtppkmmifjfcfiaaB
import Derived.Test.YtppkmmifjfcfiaaV
import Derived.Test.YtppkmmifjfcfiaaWpn
namespace Go.Proofs.Ytppkmmifjfcfiaa.P
open Go.RowKit Go.Proofs.YtppkmmifjfcfiaaW.PrintWords Go.Proofs.YtppkmmifjfcfiaaW.PrintLast Go.Proofs.YtppkmmifjfcfiaaW.PrintMore
open Go.Proofs.Ytppkmmifjfcfiaa.N Go.Proofs.Ytppkmmifjfcfiaa.V Go.Conc
attribute [local go_sem] max2_int min2_int max_two min_two max_three min_three max_four min_four
set_option linter.unusedVariables false
set_option linter.unusedSimpArgs false

theorem isIndex_c (a b : Int) (r : Bool) (w : World) (h : (decide (0 ≤ a) && decide (a < b)) = r) : Calls Try.prog 27 #[.int .i64 a, .int .i64 b] w fun e w' => e = .returned (.bool r) ∧ Drawn0 w w' := by
  refine graph_isIndex.calls a b r w ?_
  unfold graph_isIndex.f
  subst h
  by_cases h : 0 ≤ a
  · simp [h]
  · simp [h]

theorem bytes3 : ∃ i, Try.prog.info? 3 = some i ∧ i.bytes = 8 := by
  have h : (Try.prog.info? 3).map (·.bytes) = some 8 := by kernel_rfl
  obtain ⟨i, hi, hb⟩ := Option.map_eq_some_iff.1 h
  exact ⟨i, hi, hb⟩
theorem mk_chan (n : Nat) (hn : n ≤ 60) (w : World) : (Instr.makeChan 45 (.int .i64 n)).run Try.prog w = .ok (.chan (some w.heap.size)) (w.alloc (.chan n #[] false 0 0 false)) := by
  obtain ⟨i, hi, hb⟩ := bytes3
  exact run_makeChan (P := Try.prog) (w := w) Try.underlying45 hi .i64 n (by omega) (by rw [hb]; omega)

/-- What is known of memory while the search runs. -/
structure DW (w w' : World) (out : List Int) (q : List Nat) (go cap gc n : Nat) : Prop where
  o : (Kd.int .i64).R 3 w' w.heap.size (fun k => k = go) (.slice (some ⟨go, 0, none⟩) n cap) out
  c : ∃ s r, w'.heap[gc]? = some (.chan n (q.map (fun (i : Nat) => Value.int .i64 (i : Int))).toArray false s r false)
  ne : go ≠ gc
  gcB : w.heap.size ≤ gc
  goB : w.heap.size ≤ go
  b : Below w.heap.size w w'

/-- The search's frame at the head of the outer loop, and what is known. -/
def OutI (A0 : Option Addr) (c0 : Nat) (hears : List (List Bool)) (r go cap gc : Nat) (w : World) (n : Nat) (a : Act) (w' : World) : Prop :=
  ∃ (out : List Int) (q : List Nat) (x0 : Nat) (u1 u2 u3 u4 u5 u7 u9 u10 u11 u12 u13 u14 u15 u16 u17 u18 u19 u20 u21 u22 u23 u24 u25 u26 u27 u28 u29 u30 u31 u32 u33 u34 u35 u36 u37 u38 u39 u40 u41 u42 u43 u44 u45 u46 u47 u48 u49 u50 u51 u52 u53 u54 u55 u56 u57 u58 u59 u60 u61 u62 u63 u64 u65 u66 u67 u68 u69 u70 u71 u72 u73 u74 u75 u76 : Value), a = ⟨#[.slice A0 hears.length c0, u1, u2, u3, u4, u5, .slice (some ⟨go, 0, none⟩) hears.length cap, u7, .chan (some gc), u9, u10, u11, u12, u13, u14, u15, u16, u17, u18, u19, u20, u21, u22, u23, u24, u25, u26, u27, u28, u29, u30, u31, u32, u33, u34, u35, u36, u37, u38, u39, u40, u41, u42, u43, u44, u45, u46, u47, u48, u49, u50, u51, u52, u53, u54, u55, u56, u57, u58, u59, u60, u61, u62, u63, u64, u65, u66, u67, u68, u69, u70, u71, u72, u73, u74, u75, u76], []⟩ ∧ n = cneg out + q.length ∧ DW w w' out q go cap gc hears.length ∧ Inv hears r out q x0 hears.length
/-- .. and of the inner one. -/
def InI (A0 : Option Addr) (c0 : Nat) (A1 : Option Addr) (c1 : Nat) (hears : List (List Bool)) (r go cap gc x n0 : Nat) (w : World) (n : Nat) (a : Act) (w' : World) : Prop :=
  ∃ (out : List Int) (q : List Nat) (m : Nat) (u1 u2 u3 u4 u5 u7 u10 u11 u12 u13 u14 u15 u16 u17 u18 u19 u20 u21 u22 u23 u24 u25 u26 u27 u28 u29 u30 u31 u32 u33 u34 u35 u36 u37 u38 u39 u40 u41 u42 u43 u44 u45 u46 u47 u48 u49 u53 u54 u55 u56 u57 u58 u59 u60 u61 u62 u63 u64 u65 u66 u67 u68 u69 u70 u71 u72 u73 u74 u75 u76 : Value), a = ⟨#[.slice A0 hears.length c0, u1, u2, u3, u4, u5, .slice (some ⟨go, 0, none⟩) hears.length cap, u7, .chan (some gc), .int .i64 (x : Int), u10, u11, u12, u13, u14, u15, u16, u17, u18, u19, u20, u21, u22, u23, u24, u25, u26, u27, u28, u29, u30, u31, u32, u33, u34, u35, u36, u37, u38, u39, u40, u41, u42, u43, u44, u45, u46, u47, u48, u49, .slice A1 hears.length c1, .int .i64 (hears.length : Int), .int .i64 (m : Int), u53, u54, u55, u56, u57, u58, u59, u60, u61, u62, u63, u64, u65, u66, u67, u68, u69, u70, u71, u72, u73, u74, u75, u76], []⟩ ∧ m + n = hears.length ∧ n0 = cneg out + q.length ∧ DW w w' out q go cap gc hears.length ∧ Inv hears r out q x m ∧ V.At hears out q x
theorem own_at_go {w : World} {base go n cap : Nat} {xs : List Int} (h : (Kd.int .i64).R 3 w base (fun _ => True) (.slice (some ⟨go, 0, none⟩) n cap) xs) :
    (Kd.int .i64).R 3 w base (fun k => k = go) (.slice (some ⟨go, 0, none⟩) n cap) xs :=
  Kd.R_flat (fun h => h) h (fun k hk _ => by simp [Value.ownBlock] at hk; exact hk.symm)
theorem R_cellk {w : World} {base go n cap : Nat} {ok : Nat → Prop} {xs : List Int} (h : (Kd.int .i64).R 3 w base ok (.slice (some ⟨go, 0, none⟩) n cap) xs) (k : Nat) (hk : k < n) :
    w.cell? ⟨go, k, none⟩ = some (.int .i64 (ov xs k)) ∧ w.frozen? ⟨go, k, none⟩ = false := by
  have := Kd.R_celln 0 h (k : Int) (by omega) (by omega)
  exact this
theorem R_putk {w : World} {base go n cap : Nat} {ok : Nat → Prop} {xs : List Int} (h : (Kd.int .i64).R 3 w base ok (.slice (some ⟨go, 0, none⟩) n cap) xs) (k : Nat) (x : Int) :
    (Kd.int .i64).R 3 (w.setCell ⟨go, k, none⟩ (.int .i64 x)) base ok (.slice (some ⟨go, 0, none⟩) n cap) (xs.set k x) :=
  Kd.R_putn h (k : Int) x
def fillV (n k : Nat) : List Int := List.replicate k (-1) ++ List.replicate (n - k) 0
theorem fillV_zero (n : Nat) : fillV n 0 = List.replicate n 0 := by simp [fillV]
theorem fillV_full (n : Nat) : fillV n n = List.replicate n (-1) := by simp [fillV]
theorem fillV_set {n k : Nat} (h : k < n) : (fillV n k).set k (-1) = fillV n (k + 1) := by
  unfold fillV
  obtain ⟨m, rfl⟩ : ∃ m, n = k + 1 + m := ⟨n - k - 1, by omega⟩
  have e1 : k + 1 + m - k = m + 1 := by omega
  have e2 : k + 1 + m - (k + 1) = m := by omega
  rw [e1, e2, List.set_append_right _ _ (by simp), List.length_replicate, Nat.sub_self, List.replicate_succ, List.set_cons_zero, List.replicate_succ', List.append_assoc]
  rfl

theorem R_setChan {w : World} {base go n cap : Nat} {xs : List Int} (h : (Kd.int .i64).R 3 w base (fun j => j = go) (.slice (some ⟨go, 0, none⟩) n cap) xs) {gc : Nat} (hne : go ≠ gc) (cp : Nat) (buf : Array Value) (cl : Bool) (s r : Nat) (tm : Bool) :
    (Kd.int .i64).R 3 (w.setChan gc cp buf cl s r tm) base (fun j => j = go) (.slice (some ⟨go, 0, none⟩) n cap) xs :=
  Kd.R_step h (fun k hk _ => by subst hk; simp only [World.setChan]; rw [Array.getElem?_setIfInBounds_ne (by omega)])
theorem DW.start {w wr : World} {hears : List (List Bool)} {r go cap : Nat} (hr : r < hears.length) (ho : (Kd.int .i64).R 3 wr w.heap.size (fun j => j = go) (.slice (some ⟨go, 0, none⟩) hears.length cap) (List.replicate hears.length (-1)))
    (hb : Below w.heap.size w wr) (hg : w.heap.size ≤ go) :
    DW w ((((wr.alloc (.chan hears.length #[] false 0 0 false)).setChan wr.heap.size hears.length #[.int .i64 (r : Int)] false 1 0 false)).setCell ⟨go, r, none⟩ (.int .i64 0)) ((List.replicate hears.length (-1)).set r 0) [r] go cap wr.heap.size hears.length := by
  have hlt : go < wr.heap.size := Kd.R_lt ho go (by simp [Value.ownBlock])
  have h1 := Kd.R_alloc ho (.chan hears.length #[] false 0 0 false)
  have h2 := R_setChan h1 (by omega : go ≠ wr.heap.size) hears.length #[.int .i64 (r : Int)] false 1 0 false
  refine ⟨R_putk h2 r 0, ⟨1, 0, ?_⟩, by omega, hb.size, hg, ?_⟩
  · rw [Below.heap_setCell _ _ _ _ (by simp; omega)]
    rw [heap_setChan _ _ _ _ _ _ _ _ (by simp)]
    simp
  · exact (below_setChan (hb.alloc hb.size _) hb.size _ _ _ _ _ _).setCell hg _

theorem cell_later' {w wx : World} {a : Addr} {v : Value} (hb : Below w.heap.size w wx) (h : w.cell? a = some v) : wx.cell? a = some v := (hb.cell (World.block_lt_of_cell? _ _ h)).trans h
theorem dist_small {h : List (List Bool)} {r : Nat} {out : List Int} {q : List Nat} {x m : Nat} (hi : Inv h r out q x m) {i : Nat} (h1 : i < h.length) (hv : Valid h) : ov out i ≤ 9223372036854775806 := by
  have := hi.sm i h1
  have := hv.len
  omega
theorem DW.recv {w w' : World} {out : List Int} {x : Nat} {q : List Nat} {go cap gc n : Nat} {s r : Nat} (h : DW w w' out (x :: q) go cap gc n)
    (hc : w'.heap[gc]? = some (.chan n ((x :: q).map (fun (i : Nat) => Value.int .i64 (i : Int))).toArray false s r false)) :
    DW w (w'.setChan gc n ((((x :: q).map (fun (i : Nat) => Value.int .i64 (i : Int))).toArray).extract 1 (((x :: q).map (fun (i : Nat) => Value.int .i64 (i : Int))).toArray).size) false s (r + 1) false) out q go cap gc n := by
  refine ⟨R_setChan h.o h.ne _ _ _ _ _ _, ⟨s, r + 1, ?_⟩, h.ne, h.gcB, h.goB, below_setChan h.b h.gcB _ _ _ _ _ _⟩
  rw [heap_setChan _ _ _ _ _ _ _ _ (blk_lt hc)]
  have : List.take q.length (List.map (fun (i : Nat) => Value.int .i64 (i : Int)) q) = List.map (fun (i : Nat) => Value.int .i64 (i : Int)) q := List.take_of_length_le (by simp)
  simp [this]
theorem DW.send {w w' : World} {out : List Int} {q : List Nat} {go cap gc n k : Nat} {s r : Nat} (h : DW w w' out q go cap gc n)
    (hc : w'.heap[gc]? = some (.chan n (q.map (fun (i : Nat) => Value.int .i64 (i : Int))).toArray false s r false)) :
    DW w (w'.setChan gc n ((q.map (fun (i : Nat) => Value.int .i64 (i : Int))).toArray.push (.int .i64 (k : Int))) false (s + 1) r false) out (q ++ [k]) go cap gc n := by
  refine ⟨R_setChan h.o h.ne _ _ _ _ _ _, ⟨s + 1, r, ?_⟩, h.ne, h.gcB, h.goB, below_setChan h.b h.gcB _ _ _ _ _ _⟩
  rw [heap_setChan _ _ _ _ _ _ _ _ (blk_lt hc)]
  simp
theorem DW.store {w w' : World} {out : List Int} {q : List Nat} {go cap gc n k : Nat} (h : DW w w' out q go cap gc n) (x : Int) :
    DW w (w'.setCell ⟨go, k, none⟩ (.int .i64 x)) (out.set k x) q go cap gc n := by
  obtain ⟨s, r, hc⟩ := h.c
  refine ⟨R_putk h.o k x, ⟨s, r, ?_⟩, h.ne, h.gcB, h.goB, h.b.setCell h.goB _⟩
  rw [Below.heap_setCell _ _ _ _ (fun e => h.ne e.symm)]
  exact hc

set_option maxHeartbeats 4000000 in
set_option maxRecDepth 100000 in
theorem depths_yes (A0 : Option Addr) (c0 : Nat) (hears : List (List Bool)) (r : Nat) (w : World) (hr0 : Kd.C (Kd.slice 4 Kd.bool) w A0 hears.length hears) (hc0 : hears.length ≤ c0) (K : Nat) (hv : graph_isValid.f K hears = some true) (V : Valid hears) (hr : r < hears.length) :
    Calls Try.prog 17 #[.slice A0 hears.length c0, .int .i64 (r : Int)] w fun e w' => ∃ v out, e = .returned (.tuple #[v, .int .i64 0]) ∧ Kd.R (Kd.int .i64) 3 w' w.heap.size (fun _ => True) v out ∧ Below w.heap.size w w' ∧ IsDist hears r out := by
  have HR0 := Aside0.mk hr0
  have HC0 := Aside0.mk hc0
  have HV := Aside0.mk hv
  have HVV := Aside0.mk V
  have hn60 : hears.length ≤ 60 := V.len
  have HB := Aside0.mk (Below.refl w.heap.size w)
  clear hr0 hc0 hv V
  refine calls_of_wpN Try.func17 rfl ?_
  simp only [Try.ntmps17, List.size_toArray, List.length_cons, List.length_nil, Nat.reduceAdd, Nat.reduceSub, Array.replicate_succ, Array.replicate_zero, List.push_toArray, List.append_toArray, List.nil_append, List.cons_append]
  refine WpN.seq_k (fun K1 hK1 => ?_)
  go_wp2
  refine WpN.seq_k (fun K1 hK1 => ?_)
  have h27 : (decide (0 ≤ (r : Int)) && decide ((r : Int) < (hears.length : Int))) = true := by simp; omega
  have H27 := Aside0.mk h27
  clear h27
  go_wp2_with fail
  refine (graph_isValid.calls K A0 c0 hears true _ HR0.out HC0.out HV.out).mono ?_
  rintro _ w1 ⟨rfl, hd⟩
  have HB1 := Aside0.mk (below_step HB.out (Drawn0.below hd))
  clear HB hd
  go_wp2_with fail
  refine (isIndex_c _ _ true _ H27.out).mono ?_
  rintro _ w2 ⟨rfl, hd⟩
  have HB2 := Aside0.mk (below_step HB1.out (Drawn0.below hd))
  clear HB1 hd H27
  go_wp2_with fail
  refine WpN.seq_k (fun K1 hK1 => ?_)
  have p9 : (0 : Int) ≤ (hears.length : Int) := by omega
  go_wp2_with ((with_reducible refine gate_dst (N := 24) rfl ?_); refine Kd.R_make (Kd.int .i64) _ 3 rfl (N := 24) rfl 22 _ _ rfl (hears.length : Int) rfl rfl Try.underlying22 (.int .i64 0) 8 info3 rfl (by decide) (by omega) 0 (ok := fun _ => True) (okp := fun _ => True) rfl (fun _ hk => hk) trivial p9 (by omega) (Below.refl _ _) (Nat.le_refl _) ?_; intro v6 w3 ho hb hg_ hnew_; clear hg_ hnew_; have HO := Aside0.mk (Kd.R_lower ho (below_size HB2.out)); have HB3 := Aside0.mk (below_step HB2.out hb); clear HB2 hb ho)
  obtain ⟨go, cap, e6, gb, gl, cl, HG⟩ := Kd.R_form HO.out (by simp; omega)
  simp only [List.length_replicate, Int.toNat_natCast] at e6
  subst e6
  have HO1 := HO.out
  simp only [Int.toNat_natCast] at HO1
  have HO2 := Aside0.mk (own_at_go HO1)
  have GB := Aside0.mk gb
  clear HO HO1 gl HG cl gb
  refine WpN.seq_k (fun K1 hK1 => ?_)
  go_wp2
  go_loopw [27] (fun v27 wr => ∃ k : Nat, k ≤ hears.length ∧ v27 = .int .i64 (k : Int) ∧ Aside0 (Kd.R (Kd.int .i64) 3 wr w.heap.size (fun j => j = go) (.slice (some ⟨go, 0, none⟩) hears.length cap) (fillV hears.length k)) ∧ Aside0 (Below w.heap.size w wr)) (fun v27 _ => hears.length - (intOf v27).toNat)
  case atStart => exact ⟨0, Nat.zero_le _, rfl, ⟨by rw [fillV_zero]; exact HO2.out⟩, HB3⟩
  case round =>
    obtain ⟨k, hk, rfl, HOk, HBk⟩ := hrel
    clear HO2 HB3
    by_cases hlt : k < hears.length
    · obtain ⟨hx, hf⟩ := R_cellk HOk.out k hlt
      have q1 : (k : Int) < (hears.length : Int) := by omega
      go_wp2
      go_roundw
      case rel =>
        refine ⟨k + 1, by omega, by go_num, ⟨?_⟩, ⟨below_set HBk.out GB.out⟩⟩
        rw [← fillV_set hlt]
        exact R_putk HOk.out k (-1)
      case measure => simp [intOf]; omega
    · have hkn : k = hears.length := by omega
      subst hkn
      rw [fillV_full] at HOk
      have hlt' : ¬ ((hears.length : Int) < (hears.length : Int)) := by omega
      go_wp2
      have hmc := mk_chan hears.length hn60
      have HST := DW.start hr HOk.out HBk.out GB.out
      have HR5 := R_setChan (Kd.R_alloc HOk.out (.chan hears.length #[] false 0 0 false)) (Nat.ne_of_lt (Kd.R_lt HOk.out go (by simp [Value.ownBlock]))) hears.length #[.int .i64 (r : Int)] false 1 0 false
      obtain ⟨hx5, hf5⟩ := R_cellk HR5 r hr
      clear hlt' HOk hlt HR5
      refine WpN.seq_k (fun K1 hK1 => ?_)
      go_wp2
      clear hmc
      generalize hgc : wr.heap.size = gc at *
      have hc0' : (wr.alloc (.chan hears.length #[] false 0 0 false)).heap[gc]? = some (.chan hears.length #[] false 0 0 false) := by subst hgc; exact heap_alloc_new _ _
      refine WpN.seq (WpN.region ?_)
      show RegN _ _ _ [0, 1, 2] _ _
      refine RegN.value (v := .chan (some gc)) rfl rfl rfl ?_
      refine RegN.value (v := .int .i64 (r : Int)) rfl rfl rfl ?_
      refine RegN.send (g := gc) (cap := hears.length) (s := 0) (r := 0) (buf := #[]) (tm := false) (v := .int .i64 (r : Int)) (z := .tuple #[]) rfl rfl (by simp [execOp, scase, Act.eval, Act.put]) hc0' (by simp; omega) ?_
      refine RegN.nil ?_
      simp only [Exit.then, Act.put, List.setIfInBounds_toArray, List.set_cons_zero, List.set_cons_succ]
      clear hc0'
      change WpN _ _ _ _ ((wr.alloc (.chan hears.length #[] false 0 0 false)).setChan gc hears.length #[.int .i64 (r : Int)] false 1 0 false)
      generalize (wr.alloc (.chan hears.length #[] false 0 0 false)).setChan gc hears.length #[.int .i64 (r : Int)] false 1 0 false = w5 at *
      have q1 : (r : Int) < (hears.length : Int) := by omega
      refine WpN.seq_k (fun K1 hK1 => ?_)
      go_wp2
      clear hx5 hf5 q1 hk p9 hgc HBk
      refine WpN.seq (WpN.block (WpN.loop (OutI A0 c0 hears r go cap gc w) (n := cneg ((List.replicate hears.length (-1)).set r 0) + [r].length) ⟨_, [r], 0, _, _, _, _, _, _, _, _, _, _, _, _, _, _, _, _, _, _, _, _, _, _, _, _, _, _, _, _, _, _, _, _, _, _, _, _, _, _, _, _, _, _, _, _, _, _, _, _, _, _, _, _, _, _, _, _, _, _, _, _, _, _, _, _, _, _, _, _, _, _, _, _, _, _, rfl, rfl, HST, Inv.start hr⟩ ?_))
      clear HST
      intro n a w6 hI
      obtain ⟨out, q, x0, u1, u2, u3, u4, u5, u7, u9, u10, u11, u12, u13, u14, u15, u16, u17, u18, u19, u20, u21, u22, u23, u24, u25, u26, u27, u28, u29, u30, u31, u32, u33, u34, u35, u36, u37, u38, u39, u40, u41, u42, u43, u44, u45, u46, u47, u48, u49, u50, u51, u52, u53, u54, u55, u56, u57, u58, u59, u60, u61, u62, u63, u64, u65, u66, u67, u68, u69, u70, u71, u72, u73, u74, u75, u76, rfl, rfl, HD, HI⟩ := hI
      have HDD := Aside0.mk HD
      have HII := Aside0.mk HI
      obtain ⟨sc, rc, hch⟩ := HD.c
      cases q with
      | nil =>
        have hlen := fun ty => run_len_chan (P := Try.prog) 45 ty Try.underlying45 hch
        simp only [goInt, List.size_toArray, List.length_map, List.length_nil] at hlen
        clear HD HI
        refine WpN.seq_k (fun K1 hK1 => ?_)
        go_wp2
        refine WpN.of_wp ?_
        go_wp2
        go_ret2
        exact ⟨_, rfl, _, Kd.R_mono HDD.out.o (fun _ _ => trivial), HDD.out.b, HII.out.done⟩
      | cons x q =>
        have hlen := fun ty => run_len_chan (P := Try.prog) 45 ty Try.underlying45 hch
        simp only [goInt, List.size_toArray, List.length_map, List.length_cons] at hlen
        clear HD HI
        refine WpN.seq_k (fun K1 hK1 => ?_)
        go_wp2
        clear hlen
        refine WpN.block ?_
        refine WpN.seq (WpN.region ?_)
        show RegN _ _ _ [0, 1, 2] _ _
        refine RegN.value (v := .chan (some gc)) rfl rfl rfl ?_
        refine RegN.recv (g := gc) (cap := hears.length) (s := sc) (r := rc) (buf := ((x :: q).map (fun (i : Nat) => Value.int .i64 (i : Int))).toArray) (tm := false) (closed := false) (z := .int .i64 0) rfl rfl (by simp [go_sem, rcase]) hch (by simp) ?_
        refine RegN.value (v := .int .i64 (x : Int)) rfl rfl rfl ?_
        refine RegN.nil ?_
        have HD7 := Aside0.mk (DW.recv HDD.out hch)
        obtain ⟨HI7, HX7⟩ := HII.out.pop
        have HI7' := Aside0.mk HI7
        have HX7' := Aside0.mk HX7
        have hxn : x < hears.length := HX7.b
        have hcn : cneg out + (x :: q).length = cneg out + q.length + 1 := by simp; omega
        clear HDD HII HI7 HX7
        simp only [Exit.then, Act.put, List.setIfInBounds_toArray, List.set_cons_zero, List.set_cons_succ]
        generalize w6.setChan gc hears.length _ false sc (rc + 1) false = w7 at *
        clear hch
        have hrl : (rd_L2 hears (x : Int)).length = hears.length := HVV.out.row x hxn
        obtain ⟨ad, A1, c1, ea, hcx, hlx, hix⟩ := at_L2 HR0.out (x : Int) (by omega) (by omega)
        rw [hrl] at hcx hlx hix
        simp only [Int.toNat_natCast] at hcx
        replace hcx := cell_later' HD7.out.b hcx
        have q1 : (x : Int) < (hears.length : Int) := by omega
        have HA0 := Aside0.mk ea
        subst ea
        refine WpN.seq_k (fun K1 hK1 => ?_)
        go_wp2
        refine WpN.block ?_
        refine WpN.loop (InI (some ad) c0 A1 c1 hears r go cap gc x (cneg out + q.length) w) (n := hears.length) ⟨out, q, 0, _, _, _, _, _, _, _, _, _, _, _, _, _, _, _, _, _, _, _, _, _, _, _, _, _, _, _, _, _, _, _, _, _, _, _, _, _, _, _, _, _, _, _, _, _, _, _, _, _, _, _, _, _, _, _, _, _, _, _, _, _, _, _, _, _, _, _, _, _, _, rfl, by omega, rfl, HD7.out, HI7'.out, HX7'.out⟩ ?_
        have HIX := Aside0.mk hix
        have HLX := Aside0.mk hlx
        have HW7 := Aside0.mk HD7.out.b
        clear HI7' HX7' hcx hix hlx
        intro n2 a2 w8 hI2
        obtain ⟨out2, q2, m, u1, u2, u3, u4, u5, u7, u10, u11, u12, u13, u14, u15, u16, u17, u18, u19, u20, u21, u22, u23, u24, u25, u26, u27, u28, u29, u30, u31, u32, u33, u34, u35, u36, u37, u38, u39, u40, u41, u42, u43, u44, u45, u46, u47, u48, u49, u53, u54, u55, u56, u57, u58, u59, u60, u61, u62, u63, u64, u65, u66, u67, u68, u69, u70, u71, u72, u73, u74, u75, u76, rfl, hmn, hcc, HD, HI, HX⟩ := hI2
        have HDD := Aside0.mk HD
        have HII := Aside0.mk HI
        have HXX := Aside0.mk HX
        clear HD HI HX
        by_cases hm : m < hears.length
        · obtain ⟨sc2, rc2, hch2⟩ := HDD.out.c
          obtain ⟨ad2, e2, hb2⟩ := Kd.at_bool (Kd.C_below HIX.out HDD.out.b) (m : Int) (by omega) (by omega)
          have HE2 := Aside0.mk e2
          subst e2
          obtain ⟨hxc, hxf⟩ := R_cellk HDD.out.o x hxn
          obtain ⟨hmc, hmf⟩ := R_cellk HDD.out.o m hm
          have q2b : (m : Int) < (hears.length : Int) := by omega
          have hb2' : w8.cell? (ad2.add m) = some (.bool (cell hears x m)) := hb2
          clear hb2
          have hlo := HII.out.lo m hm
          refine WpN.seq_k (fun K1 hK1 => ?_)
          go_wp2
          refine WpN.seq_k (fun K1 hK1 => ?_)
          go_wp2
          refine WpN.seq (WpN.block ?_)
          refine WpN.seq_k (fun K1 hK1 => ?_)
          go_wp2
          by_cases hp : cell hears x m = true ∧ ov out2 m < 0
          · obtain ⟨hcell, hneg⟩ := hp
            rw [hcell]
            have hnegb : decide (ov out2 m < 0) = true := decide_eq_true hneg
            have hvx := HXX.out.v
            have hwr : ov out2 x ≤ 9223372036854775806 := dist_small HII.out hxn HVV.out
            obtain ⟨HI9, HX9, hroom, hcnt⟩ := Inv.push HVV.out HII.out HXX.out hm hcell hneg
            have HI9' := Aside0.mk HI9
            have HX9' := Aside0.mk HX9
            have HD9 := DW.store (k := m) HDD.out (ov out2 x + 1)
            obtain ⟨sc3, rc3, hch3⟩ := HD9.c
            have HD9' := Aside0.mk (DW.send (k := m) HD9 hch3)
            have hch3' := Aside0.mk hch3
            clear HI9 HX9 HD9 hneg hlo hch3
            refine WpN.seq_k (fun K1 hK1 => ?_)
            go_wp2
            refine WpN.cond (t := true) rfl ?_
            simp only [if_true]
            refine WpN.seq_k (fun K1 hK1 => ?_)
            go_wp2
            refine WpN.region ?_
            show RegN _ _ _ [0, 1, 2] _ _
            refine RegN.value (v := .chan (some gc)) rfl rfl rfl ?_
            refine RegN.value (v := .int .i64 (m : Int)) rfl rfl rfl ?_
            refine RegN.send (g := gc) (cap := hears.length) (s := sc3) (r := rc3) (buf := (q2.map (fun (i : Nat) => Value.int .i64 (i : Int))).toArray) (tm := false) (v := .int .i64 (m : Int)) (z := .tuple #[]) rfl rfl (by simp [execOp, scase, Act.eval, Act.put]) hch3'.out (by simpa using hroom) ?_
            refine RegN.nil ?_
            simp only [Exit.then, Exit.inBlock, Act.put, List.setIfInBounds_toArray, List.set_cons_zero, List.set_cons_succ]
            refine WpN.of_wp ?_
            go_wp2
            exact ⟨n2 - 1, by omega, out2.set m (ov out2 x + 1), q2 ++ [m], m + 1, _, _, _, _, _, _, _, _, _, _, _, _, _, _, _, _, _, _, _, _, _, _, _, _, _, _, _, _, _, _, _, _, _, _, _, _, _, _, _, _, _, _, _, _, _, _, _, _, _, _, _, _, _, _, _, _, _, _, _, _, _, _, _, _, _, _, _, _, _, _, rfl, by omega, by omega, by have := HD9'.out; simpa using this, HI9'.out, HX9'.out⟩
          · have HP := Inv.pass HII.out HXX.out hm (fun hc => by
              have : ¬ ov out2 m < 0 := fun hn => hp ⟨hc, hn⟩
              omega)
            have HP' := Aside0.mk HP
            clear HP
            cases hcell : cell hears x m with
            | false =>
              clear hp
              refine WpN.seq_k (fun K1 hK1 => ?_)
              go_wp2
              refine WpN.cond (t := false) rfl ?_
              simp only [Bool.false_eq_true, if_false]
              refine WpN.skip ?_
              simp only [Exit.then, Exit.inBlock]
              refine WpN.of_wp ?_
              go_wp2
              exact ⟨n2 - 1, by omega, out2, q2, m + 1, _, _, _, _, _, _, _, _, _, _, _, _, _, _, _, _, _, _, _, _, _, _, _, _, _, _, _, _, _, _, _, _, _, _, _, _, _, _, _, _, _, _, _, _, _, _, _, _, _, _, _, _, _, _, _, _, _, _, _, _, _, _, _, _, _, _, _, _, _, _, rfl, by omega, by omega, HDD.out, HP'.out, HXX.out⟩
            | true =>
              have hnegb : decide (ov out2 m < 0) = false := decide_eq_false (fun hn => hp ⟨hcell, hn⟩)
              clear hp
              refine WpN.seq_k (fun K1 hK1 => ?_)
              go_wp2
              refine WpN.cond (t := false) rfl ?_
              simp only [Bool.false_eq_true, if_false]
              refine WpN.skip ?_
              simp only [Exit.then, Exit.inBlock]
              refine WpN.of_wp ?_
              go_wp2
              exact ⟨n2 - 1, by omega, out2, q2, m + 1, _, _, _, _, _, _, _, _, _, _, _, _, _, _, _, _, _, _, _, _, _, _, _, _, _, _, _, _, _, _, _, _, _, _, _, _, _, _, _, _, _, _, _, _, _, _, _, _, _, _, _, _, _, _, _, _, _, _, _, _, _, _, _, _, _, _, _, _, _, _, rfl, by omega, by omega, HDD.out, HP'.out, HXX.out⟩
        · have hmn' : m = hears.length := by omega
          subst hmn'
          have hlt2 : ¬ ((hears.length : Int) < (hears.length : Int)) := by omega
          refine WpN.seq_k (fun K1 hK1 => ?_)
          go_wp2
          refine WpN.seq (WpN.cond (t := false) rfl ?_)
          simp only [Bool.false_eq_true, if_false]
          refine WpN.exit ?_
          simp only [Exit.then, Exit.inBlock, reduceIte, Nat.reduceEqDiff, reduceCtorEq, if_false, if_true]
          exact ⟨cneg out2 + q2.length, by omega, out2, q2, x, _, _, _, _, _, _, _, _, _, _, _, _, _, _, _, _, _, _, _, _, _, _, _, _, _, _, _, _, _, _, _, _, _, _, _, _, _, _, _, _, _, _, _, _, _, _, _, _, _, _, _, _, _, _, _, _, _, _, _, _, _, _, _, _, _, _, _, _, _, _, _, _, _, _, rfl, rfl, HDD.out, HII.out⟩
end Go.Proofs.Ytppkmmifjfcfiaa.P
