/- graph.Islands: for every valid table the call returns for each node the least node of its island; otherwise ErrArg. -/
import Derived.Test.YtppkmmifjfcfiaaDf
import Derived.Test.YtppkmmifjfcfiaaV2
import Derived.Laws.EntriesVeiled
namespace Go.Proofs.Ytppkmmifjfcfiaa.P
open Go.RowKit Go.Proofs.YtppkmmifjfcfiaaW.PrintWords Go.Proofs.YtppkmmifjfcfiaaW.PrintLast Go.Proofs.YtppkmmifjfcfiaaW.PrintMore
open Go.Proofs.Ytppkmmifjfcfiaa.V
attribute [local go_sem] max2_int min2_int max_two min_two max_three min_three max_four min_four
set_option linter.unusedVariables false
set_option linter.unusedSimpArgs false

/-- The closure's value: function 29 over the three variables. -/
def visitV (bo bh bv : Nat) : Value := .func (.func 29) #[] #[.pointer (some ⟨bo, 0, none⟩), .pointer (some ⟨bh, 0, none⟩), .pointer (some ⟨bv, 0, none⟩)]
/-- What is known of memory while islands are looked for. -/
structure IW (w w' : World) (A0 : Option Addr) (c0 n : Nat) (out : List Int) (go cap bo bh bv : Nat) : Prop where
  o : (Kd.int .i64).R 3 w' w.heap.size (fun k => k = go) (.slice (some ⟨go, 0, none⟩) n cap) out
  xo : w'.heap[bo]? = some (.cells #[.slice (some ⟨go, 0, none⟩) n cap] 22 (0, 0))
  xh : w'.heap[bh]? = some (.cells #[.slice A0 n c0] 29 (0, 0))
  xv : w'.heap[bv]? = some (.cells #[visitV bo bh bv] 46 (0, 0))
  no : go ≠ bo
  nh : go ≠ bh
  nv : go ≠ bv
  goB : w.heap.size ≤ go
  b : Below w.heap.size w w'
theorem IW.store {w w' : World} {A0 : Option Addr} {c0 n : Nat} {out : List Int} {go cap bo bh bv : Nat} (h : IW w w' A0 c0 n out go cap bo bh bv) (k : Nat) (x : Int) :
    IW w (w'.setCell ⟨go, k, none⟩ (.int .i64 x)) A0 c0 n (out.set k x) go cap bo bh bv :=
  ⟨R_putk h.o k x, blk_far h.xo (p := ⟨go, k, none⟩) (Ne.symm h.no) _, blk_far h.xh (p := ⟨go, k, none⟩) (Ne.symm h.nh) _, blk_far h.xv (p := ⟨go, k, none⟩) (Ne.symm h.nv) _, h.no, h.nh, h.nv, h.goB, h.b.setCell h.goB _⟩
theorem cell1 {w : World} {g : Nat} {t : TypeId} {x : Value} (h : w.heap[g]? = some (.cells #[x] t (0, 0))) : w.cell? ⟨g, 0, none⟩ = some x := (blk_cell h 0).trans rfl

/-- The relation of the closure's loop. -/
def VisR (A0 : Option Addr) (c0 : Nat) (hears : List (List Bool)) (w : World) (go cap bo bh bv : Nat) (num : Int) (i : Nat) (out : List Int) (m : Nat) (w' : World) : Prop :=
  ∃ cur, IW w w' A0 c0 hears.length cur go cap bo bh bv ∧ VLoop hears i num out cur m
/-- What a visit leaves. -/
def VisQ (A0 : Option Addr) (c0 : Nat) (hears : List (List Bool)) (w : World) (go cap bo bh bv : Nat) (num : Int) (i : Nat) (out : List Int) (w' : World) : Prop :=
  ∃ out', IW w w' A0 c0 hears.length out' go cap bo bh bv ∧ VPost hears i num out out'

set_option maxHeartbeats 4000000 in
set_option maxRecDepth 100000 in
theorem visit_c (A0 : Option Addr) (c0 : Nat) (hears : List (List Bool)) (w : World) (go cap bo bh bv : Nat) (hr0 : Kd.C (Kd.slice 4 Kd.bool) w A0 hears.length hears) (V : Valid hears) (num : Int) (hnum : 0 ≤ num) (d : Nat) :
    ∀ (out : List Int) (w' : World) (i : Nat), cneg out ≤ d → out.length = hears.length → IW w w' A0 c0 hears.length out go cap bo bh bv → i < hears.length → ov out i < 0 →
      Calls Try.prog 29 #[.int .i64 (i : Int), .int .i64 num, .pointer (some ⟨bo, 0, none⟩), .pointer (some ⟨bh, 0, none⟩), .pointer (some ⟨bv, 0, none⟩)] w' fun e w'' => e = .returned (.tuple #[]) ∧ VisQ A0 c0 hears w go cap bo bh bv num i out w'' := by
  have HR0 := Aside0.mk hr0
  have HVV := Aside0.mk V
  have hn60 : hears.length ≤ 60 := V.len
  clear hr0 V
  induction d with
  | zero =>
    intro out w' i hd hl hI hi h0
    have := cneg_pos (out := out) (by omega) h0
    omega
  | succ d ih =>
    intro out w' i hd hl hI hi h0
    have IH := Aside0.mk ih
    have HI := Aside0.mk (IW.store hI i num)
    have HL := Aside0.mk (VLoop.start hl hi h0 hnum)
    have hxo := cell1 hI.xo
    have hxh := cell1 hI.xh
    obtain ⟨hxc, hxf⟩ := R_cellk hI.o i hi
    have n1 := hI.no
    have n2 := hI.nh
    have n3 := hI.nv
    have q1 : (i : Int) < (hears.length : Int) := by omega
    have hrl : (rd_L2 hears (i : Int)).length = hears.length := HVV.out.row i hi
    obtain ⟨ad, A1, c1, ea, hcx, hlx, hix⟩ := at_L2 HR0.out (i : Int) (by omega) (by omega)
    rw [hrl] at hcx hlx hix
    simp only [Int.toNat_natCast] at hcx
    have hcx2 := cell_later' HI.out.b hcx
    replace hcx := cell_later' hI.b hcx
    have HIX := Aside0.mk hix
    subst ea
    clear ih hI hlx hix
    go_enter Try.func29, Try.ntmps29
    go_wp2
    go_loopw [18] (fun v18 wr => ∃ m : Nat, v18 = .int .i64 (m : Int) ∧ m ≤ hears.length ∧ VisR (some ad) c0 hears w go cap bo bh bv num i out m wr) (fun v18 _ => hears.length - (intOf v18).toNat)
    case atStart => exact ⟨0, rfl, Nat.zero_le _, _, HI.out, HL.out⟩
    case round =>
      obtain ⟨m, rfl, hm, cur, HIc, HLc⟩ := hrel
      clear hxo hxh hxc hxf hcx hcx2 HI HL
      by_cases hlt : m < hears.length
      · have hxo := cell1 HIc.xo
        have hxv : wr.cell? ⟨bv, 0, none⟩ = some (.func (.func 29) #[] #[.pointer (some ⟨bo, 0, none⟩), .pointer (some ⟨bh, 0, none⟩), .pointer (some ⟨bv, 0, none⟩)]) := cell1 HIc.xv
        obtain ⟨hmc, hmf⟩ := R_cellk HIc.o m hlt
        obtain ⟨ad2, e2, hb2⟩ := Kd.at_bool (Kd.C_below HIX.out HIc.b) (m : Int) (by omega) (by omega)
        subst e2
        have hb2' : wr.cell? (ad2.add m) = some (.bool (cell hears i m)) := hb2
        clear hb2
        have q2 : (m : Int) < (hears.length : Int) := by omega
        have HLL := Aside0.mk HLc
        have HII := Aside0.mk HIc
        clear HLc HIc
        by_cases hp : cell hears i m = true ∧ ov cur m < 0
        · obtain ⟨hcell, hneg⟩ := hp
          rw [hcell] at hb2'
          have hnegb : decide (ov cur m < 0) = true := decide_eq_true hneg
          have HC := IH.out cur wr m (by have := HLL.out.dec; omega) (by rw [HLL.out.len]; exact hl) HII.out hlt hneg
          have HCC := Aside0.mk HC
          have HCE := Aside0.mk hcell
          clear HC hneg hcell
          go_wp2_with fail
          refine HCC.out.mono ?_
          rintro _ w9 ⟨rfl, out9, HI9, HP9⟩
          have HI9' := Aside0.mk HI9
          have HP9' := Aside0.mk HP9
          clear HI9 HP9
          go_wp2
          go_roundw
          case rel => exact ⟨m + 1, by go_num, by omega, out9, HI9'.out, VLoop.visit hnum hi hlt HCE.out HLL.out HP9'.out⟩
          case measure => simp [intOf]; omega
        · have HP := VLoop.pass HLL.out (fun hc => by
            have : ¬ ov cur m < 0 := fun hn => hp ⟨hc, hn⟩
            omega)
          have HPP := Aside0.mk HP
          clear HP
          cases hcell : cell hears i m with
          | false =>
            rw [hcell] at hb2'
            clear hp hcell
            go_wp2
            go_roundw
            case rel => exact ⟨m + 1, by go_num, by omega, cur, HII.out, HPP.out⟩
            case measure => simp [intOf]; omega
          | true =>
            rw [hcell] at hb2'
            have hnegb : decide (ov cur m < 0) = false := decide_eq_false (fun hn => hp ⟨hcell, hn⟩)
            clear hp hcell
            go_wp2
            go_roundw
            case rel => exact ⟨m + 1, by go_num, by omega, cur, HII.out, HPP.out⟩
            case measure => simp [intOf]; omega
      · have hmn : m = hears.length := by omega
        subst hmn
        have HLL := Aside0.mk HLc
        have HII := Aside0.mk HIc
        clear HLc HIc hlt
        go_wp2
        go_end0
        exact ⟨rfl, cur, HII.out, HLL.out.done⟩

/-- As IW, before the closure is made. -/
structure IX (w w' : World) (A0 : Option Addr) (c0 n : Nat) (out : List Int) (go cap bo bh : Nat) : Prop where
  o : (Kd.int .i64).R 3 w' w.heap.size (fun k => k = go) (.slice (some ⟨go, 0, none⟩) n cap) out
  xo : w'.heap[bo]? = some (.cells #[.slice (some ⟨go, 0, none⟩) n cap] 22 (0, 0))
  xh : w'.heap[bh]? = some (.cells #[.slice A0 n c0] 29 (0, 0))
  no : go ≠ bo
  nh : go ≠ bh
  goB : w.heap.size ≤ go
  b : Below w.heap.size w w'
theorem IX.store {w w' : World} {A0 : Option Addr} {c0 n : Nat} {out : List Int} {go cap bo bh : Nat} (h : IX w w' A0 c0 n out go cap bo bh) (k : Nat) (x : Int) :
    IX w (w'.setCell ⟨go, k, none⟩ (.int .i64 x)) A0 c0 n (out.set k x) go cap bo bh :=
  ⟨R_putk h.o k x, blk_far h.xo (p := ⟨go, k, none⟩) (Ne.symm h.no) _, blk_far h.xh (p := ⟨go, k, none⟩) (Ne.symm h.nh) _, h.no, h.nh, h.goB, h.b.setCell h.goB _⟩
theorem IX.close {w w' : World} {A0 : Option Addr} {c0 n : Nat} {out : List Int} {go cap bo bh : Nat} (h : IX w w' A0 c0 n out go cap bo bh) :
    IW w (w'.alloc (.cells #[visitV bo bh w'.heap.size] 46)) A0 c0 n out go cap bo bh w'.heap.size :=
  ⟨Kd.R_alloc h.o _, blk_alloc h.xo _, blk_alloc h.xh _, blk_new _ _, h.no, h.nh, Nat.ne_of_lt (Kd.R_lt h.o go (by simp [Value.ownBlock])), h.goB, h.b.alloc h.b.size _⟩

/-- The relation of the loop over all nodes. -/
def MainR (A0 : Option Addr) (c0 : Nat) (hears : List (List Bool)) (w : World) (go cap bo bh bv : Nat) (m : Nat) (w' : World) : Prop :=
  ∃ out, IW w w' A0 c0 hears.length out go cap bo bh bv ∧ MInv hears out m

set_option maxHeartbeats 4000000 in
set_option maxRecDepth 100000 in
theorem islands_yes (A0 : Option Addr) (c0 : Nat) (hears : List (List Bool)) (w : World) (hr0 : Kd.C (Kd.slice 4 Kd.bool) w A0 hears.length hears) (hc0 : hears.length ≤ c0) (K : Nat) (hv : graph_isValid.f K hears = some true) (V : Valid hears) (hpos : 0 < hears.length) :
    Calls Try.prog 20 #[.slice A0 hears.length c0] w fun e w' => ∃ v out, e = .returned (.tuple #[v, .int .i64 0]) ∧ Kd.R (Kd.int .i64) 3 w' w.heap.size (fun _ => True) v out ∧ Below w.heap.size w w' ∧ IsIsl hears out := by
  have HR0 := Aside0.mk hr0
  have HC0 := Aside0.mk hc0
  have HV := Aside0.mk hv
  have HVV := Aside0.mk V
  have hn60 : hears.length ≤ 60 := V.len
  clear hr0 hc0 hv V
  have HX0 := Aside0.mk (blk_new w (.cells #[.slice A0 hears.length c0] 29))
  have HB0 := Aside0.mk ((Below.refl w.heap.size w).alloc (Nat.le_refl _) (.cells #[.slice A0 hears.length c0] 29))
  go_enter Try.func20, Try.ntmps20
  go_wp2_with fail
  refine (graph_isValid.calls K A0 c0 hears true _ (Kd.C_alloc HR0.out _) HC0.out HV.out).mono ?_
  rintro _ w1 ⟨rfl, hd⟩
  have HB1 := Aside0.mk (below_step HB0.out (Drawn0.below hd))
  have HX1 := Aside0.mk (blk_below HX0.out (Drawn0.below hd))
  clear HB0 HX0 hd
  have hxh := cell1 HX1.out
  have p9 : (0 : Int) ≤ (hears.length : Int) := by omega
  have hsz := blk_lt HX1.out
  go_wp2_with ((with_reducible refine gate_dst (N := 13) rfl ?_); refine Kd.R_make (Kd.int .i64) _ 3 rfl (N := 13) rfl 22 _ _ rfl (hears.length : Int) rfl rfl Try.underlying22 (.int .i64 0) 8 info3 rfl (by decide) (by omega) 0 (ok := fun _ => True) (okp := fun _ => True) rfl (fun _ hk => hk) trivial p9 (by omega) (Below.refl _ _) (Nat.le_refl _) ?_; intro v6 w3 ho hb hg_ hnew_; clear hg_ hnew_; obtain ⟨go, cap, e6, gb, gl, cl, HG⟩ := Kd.R_form ho (by rw [List.length_replicate]; omega); have HO := Kd.R_lower ho (below_size HB1.out); have HB3 := Aside0.mk (below_step HB1.out hb); have HX3 := Aside0.mk (blk_below HX1.out hb); clear HB1 HX1 hxh hb ho; (simp only [List.length_replicate, Int.toNat_natCast] at e6); subst e6; (simp only [Int.toNat_natCast] at HO); have HO2 := Aside0.mk (own_at_go HO); have GB : w.heap.size < go := Nat.lt_of_lt_of_le hsz gb; clear HO HG gb cl hsz)
  have HIX : IX w (w3.alloc (.cells #[.slice (some ⟨go, 0, none⟩) hears.length cap] 22)) A0 c0 hears.length (fillV hears.length 0) go cap w3.heap.size w.heap.size :=
    ⟨by rw [fillV_zero]; exact Kd.R_alloc HO2.out _, blk_new _ _, blk_alloc HX3.out _, by omega, by omega, Nat.le_of_lt GB, HB3.out.alloc HB3.out.size _⟩
  have HII := Aside0.mk HIX
  clear HIX HO2 HB3 HX3 GB gl
  generalize w3.heap.size = bo at *
  go_loopw [16] (fun v16 wr => ∃ k : Nat, k ≤ hears.length ∧ v16 = .int .i64 (k : Int) ∧ Aside0 (IX w wr A0 c0 hears.length (fillV hears.length k) go cap bo w.heap.size)) (fun v16 _ => hears.length - (intOf v16).toNat)
  case atStart => exact ⟨0, Nat.zero_le _, rfl, HII⟩
  case round =>
    obtain ⟨k, hk, rfl, HIk⟩ := hrel
    clear HII
    by_cases hlt : k < hears.length
    · obtain ⟨hx, hf⟩ := R_cellk HIk.out.o k hlt
      have hxo := cell1 HIk.out.xo
      have q1 : (k : Int) < (hears.length : Int) := by omega
      go_wp2
      go_roundw
      case rel =>
        refine ⟨k + 1, by omega, by go_num, ⟨?_⟩⟩
        rw [← fillV_set hlt]
        exact HIk.out.store k (-1)
      case measure => simp [intOf]; omega
    · have hkn : k = hears.length := by omega
      subst hkn
      have hlt' : ¬ ((hears.length : Int) < (hears.length : Int)) := by omega
      have HIV := Aside0.mk (IX.close HIk.out)
      have hxo : (wr.alloc (.cells #[.func (.func 29) #[] #[.pointer (some ⟨bo, 0, none⟩), .pointer (some ⟨w.heap.size, 0, none⟩), .pointer (some ⟨wr.heap.size, 0, none⟩)]] 46)).cell? ⟨bo, 0, none⟩ = some (.slice (some ⟨go, 0, none⟩) hears.length cap) := cell1 HIV.out.xo
      have HMR : MainR A0 c0 hears w go cap bo w.heap.size wr.heap.size 0 (wr.alloc (.cells #[.func (.func 29) #[] #[.pointer (some ⟨bo, 0, none⟩), .pointer (some ⟨w.heap.size, 0, none⟩), .pointer (some ⟨wr.heap.size, 0, none⟩)]] 46)) :=
        ⟨_, HIV.out, by rw [fillV_full]; exact MInv.start hears⟩
      clear HIk hlt HIV
      go_wp2
      clear hxo
      generalize wr.heap.size = bv at *
      go_loopw [26] (fun v26 wq => ∃ m : Nat, m ≤ hears.length ∧ v26 = .int .i64 (m : Int) ∧ MainR A0 c0 hears w go cap bo w.heap.size bv m wq) (fun v26 _ => hears.length - (intOf v26).toNat)
      case atStart => exact ⟨0, Nat.zero_le _, rfl, HMR⟩
      case round =>
        obtain ⟨m, hm, rfl, out, HIc, HMc⟩ := hrel
        have HII := Aside0.mk HIc
        have HMM := Aside0.mk HMc
        clear HIc HMc HMR
        have hxo := cell1 HII.out.xo
        by_cases hlt : m < hears.length
        · have hxv : wr.cell? ⟨bv, 0, none⟩ = some (.func (.func 29) #[] #[.pointer (some ⟨bo, 0, none⟩), .pointer (some ⟨w.heap.size, 0, none⟩), .pointer (some ⟨bv, 0, none⟩)]) := cell1 HII.out.xv
          obtain ⟨hmc, hmf⟩ := R_cellk HII.out.o m hlt
          have q2 : (m : Int) < (hears.length : Int) := by omega
          by_cases hneg : ov out m < 0
          · have hnegb : decide (ov out m < 0) = true := decide_eq_true hneg
            have HC := visit_c A0 c0 hears w go cap bo w.heap.size bv HR0.out HVV.out (m : Int) (by omega) (cneg out) out _ m (Nat.le_refl _) HMM.out.len HII.out hlt hneg
            have HCC := Aside0.mk HC
            have HNN := Aside0.mk hneg
            clear HC hneg
            go_wp2_with fail
            refine HCC.out.mono ?_
            rintro _ w9 ⟨rfl, out9, HI9, HP9⟩
            have HI9' := Aside0.mk HI9
            have HP9' := Aside0.mk HP9
            clear HI9 HP9
            go_wp2
            go_roundw
            case rel => exact ⟨m + 1, by omega, by go_num, out9, HI9'.out, MInv.visit HVV.out HMM.out hlt HNN.out HP9'.out⟩
            case measure => simp [intOf]; omega
          · have hnegb : decide (ov out m < 0) = false := decide_eq_false hneg
            have HP := Aside0.mk (MInv.pass HMM.out (by omega : 0 ≤ ov out m))
            clear hneg
            go_wp2
            go_roundw
            case rel => exact ⟨m + 1, by omega, by go_num, out, HII.out, HP.out⟩
            case measure => simp [intOf]; omega
        · have hmn : m = hears.length := by omega
          subst hmn
          clear hlt
          go_wp2
          go_ret2
          exact ⟨_, out, rfl, Kd.R_mono HII.out.o (fun _ _ => trivial), HII.out.b, HMM.out.done⟩
end Go.Proofs.Ytppkmmifjfcfiaa.P
