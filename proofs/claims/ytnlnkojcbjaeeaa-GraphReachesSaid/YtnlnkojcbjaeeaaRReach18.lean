/- The document's Reach. -/
import Derived.Test.YtnlnkojcbjaeeaaPut18
namespace Go.Proofs.Ytnlnkojcbjaeeaa
set_option linter.unusedVariables false
set_option linter.unusedSimpArgs false
set_option linter.unusedSectionVars false
open Go.RowKit
set_option linter.unusedVariables false
def bs (cm : List Bool) : List Value := cm.map Value.bool
theorem bs_get (cm : List Bool) (i : Nat) (h : i < cm.length) : (bs cm)[i]? = some (.bool (cm.getD i false)) := by simp [bs, h]
theorem bs_set (cm : List Bool) (i : Nat) (b : Bool) : (bs cm).set i (.bool b) = bs (cm.set i b) := by simp [bs, List.map_set]
def falses (cm : List Bool) : Nat := cm.countP (fun b => !b)
theorem falses_set : ∀ (cm : List Bool) (i : Nat), i < cm.length → cm.getD i false = false → falses (cm.set i true) + 1 = falses cm
  | [], i, h, _ => by simp at h
  | b :: cm, 0, _, hb => by
    have : b = false := by simpa using hb
    subst this
    simp [falses]
  | b :: cm, i + 1, h, hb => by
    have ih := falses_set cm i (by simpa using h) (by simpa using hb)
    unfold falses at *
    rw [List.set_cons_succ, List.countP_cons, List.countP_cons]
    omega
theorem falses_le (cm : List Bool) : falses cm ≤ cm.length := List.countP_le_length
def xn (ns : Nodes) (i : Nat) : Dg := (ns.getD i n0).1
def tn (ns : Nodes) (i : Nat) : List Dg := (ns.getD i n0).2
/-- is node i named by a root, or by one of the first k nodes that are come to? -/
def isU (ns : Nodes) (roots : List Dg) (cm : List Bool) (i k : Nat) : Bool := decide (xn ns i ∈ roots) || (List.range k).any (fun k => cm.getD k false && decide (xn ns i ∈ tn ns k))
theorem isU_zero (ns : Nodes) (roots : List Dg) (cm : List Bool) (i : Nat) : isU ns roots cm i 0 = decide (xn ns i ∈ roots) := by simp [isU]
theorem isU_succ (ns : Nodes) (roots : List Dg) (cm : List Bool) (i k : Nat) : isU ns roots cm i (k + 1) = (isU ns roots cm i k || (cm.getD k false && decide (xn ns i ∈ tn ns k))) := by
  unfold isU
  rw [List.range_succ, List.any_append, Bool.or_assoc]
  simp
def comeL (ns : Nodes) (cm : List Bool) (k : Nat) : List Dg := ((List.range k).filter (fun i => cm.getD i false)).map (xn ns)
theorem comeL_zero (ns : Nodes) (cm : List Bool) : comeL ns cm 0 = [] := rfl
theorem comeL_succ (ns : Nodes) (cm : List Bool) (k : Nat) : comeL ns cm (k + 1) = comeL ns cm k ++ (if cm.getD k false = true then [xn ns k] else []) := by
  unfold comeL
  rw [List.range_succ, List.filter_append, List.map_append]
  congr 1
  cases h : cm.getD k false with
  | true => rw [if_pos rfl, List.filter_cons_of_pos (p := fun i => cm.getD i false) h]; rfl
  | false => rw [if_neg (by simp), List.filter_cons_of_neg (p := fun i => cm.getD i false) (by rw [h]; simp)]; rfl
theorem comeL_len (ns : Nodes) (cm : List Bool) (k : Nat) : (comeL ns cm k).length ≤ k := by
  unfold comeL
  rw [List.length_map]
  exact Nat.le_trans (List.length_filter_le _ _) (by simp)
def SndC (RB : List Dg) (ns : Nodes) (cm : List Bool) : Prop := ∀ i, cm.getD i false = true → xn ns i ∈ RB
theorem isU_snd {RB roots : List Dg} {ns : Nodes} {cm : List Bool} {n i : Nat} (hi : i < n) (h1 : ∀ i, i < n → xn ns i ∈ roots → xn ns i ∈ RB) (h2 : ∀ k, k < n → ∀ i, i < n → xn ns k ∈ RB → xn ns i ∈ tn ns k → xn ns i ∈ RB) (hs : SndC RB ns cm)
    (h : isU ns roots cm i n = true) : xn ns i ∈ RB := by
  unfold isU at h
  rw [Bool.or_eq_true] at h
  rcases h with h | h
  · exact h1 i hi (of_decide_eq_true h)
  · obtain ⟨k, hk, hkk⟩ := List.any_eq_true.1 h
    rw [Bool.and_eq_true] at hkk
    exact h2 k (List.mem_range.1 hk) i hi (hs k hkk.1) (of_decide_eq_true hkk.2)
theorem SndC.set {RB : List Dg} {ns : Nodes} {cm : List Bool} {i : Nat} (h : SndC RB ns cm) (hi : xn ns i ∈ RB) : SndC RB ns (cm.set i true) := by
  intro j hj
  by_cases e : i = j
  · subst e; exact hi
  · refine h j ?_
    rw [List.getD_eq_getElem?_getD, List.getElem?_set_ne e, ← List.getD_eq_getElem?_getD] at hj
    exact hj
def ClsC (ns : Nodes) (roots : List Dg) (cm : List Bool) (n i : Nat) : Prop := ∀ j, j < i → cm.getD j false = false → isU ns roots cm j n = false
theorem ClsC.step {ns : Nodes} {roots : List Dg} {cm : List Bool} {n i : Nat} (h : ClsC ns roots cm n i) (hi : cm.getD i false = false → isU ns roots cm i n = false) : ClsC ns roots cm n (i + 1) := by
  intro j hj hc
  by_cases e : j = i
  · subst e; exact hi hc
  · exact h j (by omega) hc
section
variable {P : Program} {ops : Array Oper} {C : World → Prop} {keeps : Nat → Bool}
/-- an operation that is not met; what stands behind it is put in order -/
theorem wpMix_skipK {Kn : Act → World → Prop} {i : Nat} {r : List (Nat × Bool)} {a : Act} {w : World} {o : Oper} (ho : ops[i]? = some o) (hg : Region.wanted o (yielded ops a.tmps) = false)
    (h : ∀ K : Act → Prop, (∀ a', wpMix P ops C keeps Kn r a' w → K a') → K (a.put o.dst undef)) : wpMix P ops C keeps Kn ((i, true) :: r) a w :=
  wpMix_skip o ho hg (h _ (fun _ h => h))
end
theorem info_b : (Try.prog.info? 4).map (fun i => (i.zero, i.size, i.bytes)) = some (some (.bool false), 1, 1) := by kernel_rfl
theorem bs_repl (n : Nat) : List.replicate n (Value.bool false) = bs (List.replicate n false) := by simp [bs]
set_option maxRecDepth 100000 in
set_option maxHeartbeats 8000000 in
theorem refReach_any (A A1 : Option Addr) (c c1 n n1 : Nat) (kv : KV) (ns : Nodes) (RB roots : List Dg) (w : World) (hn : kv.length = n) (hN : NdIn w A c kv) (hRo : RowsOf w kv ns) (hl : kv.length ≤ 1024) (hlt : ∀ p ∈ ns, p.2.length ≤ 4096)
    (hn1 : roots.length = n1) (hR : Rows32 w A1 c1 roots) (hl1 : roots.length ≤ 4096) (h1 : ∀ i, i < n → xn ns i ∈ roots → xn ns i ∈ RB) (h2 : ∀ k, k < n → ∀ i, i < n → xn ns k ∈ RB → xn ns i ∈ tn ns k → xn ns i ∈ RB) :
    Calls Try.prog 17 #[.slice A n c, .slice A1 n1 c1] w fun e w' => ∃ v cm, e = .returned v ∧ cm.length = n ∧ SndC RB ns cm ∧ ClsC ns roots cm n n ∧ Own w w' [rowsE w.heap.size 29 v (comeL ns cm n)] := by
  subst hn1
  have HN0 := Lib.hid hn
  have HN := Lib.hid hN
  have HRO := Lib.hid hRo
  have HL := Lib.hid (show n ≤ 1024 by omega)
  have HLT := Lib.hid (show ∀ k, (tn ns k).length ≤ 4096 from fun k => by
    unfold tn
    by_cases hk : k < ns.length
    · exact hlt _ (getD_mem hk _)
    · rw [List.getD_eq_getElem?_getD, List.getElem?_eq_none (by omega)]; simp [n0])
  have HR := Lib.hid hR
  have HL1 := Lib.hid hl1
  have HU := Lib.hid (fun (cm : List Bool) (i : Nat) (hi : i < n) (hs : SndC RB ns cm) (h : isU ns roots cm i n = true) => isU_snd hi h1 h2 hs h)
  have HX := Lib.hid (show ∀ i, i < n → (xn ns i).length = 32 from fun i hi => by
    unfold xn
    rw [← (hRo.at_ i (by omega)).1]
    exact (hN.k32.at_ i (by omega)).1)
  have hT := Own.start w
  clear hn hN hRo hl hlt hR hl1 h1 h2
  go_enter Try.func17, Try.ntmps17
  go_wp2_with (refine wp_make rfl 80 (.tmp 13) (.tmp 13) rfl 4 (.bool false) 1 Try.underlying80 info_b rfl n n rfl rfl (Nat.le_refl _) (by have := HL.out; omega) (by have := HL.out; omega) ?_)
  intro w1 hr hg hz
  clear hz
  rw [bs_repl] at hr
  have hS := hT.new hr hg
  clear hr hg hT
  go_wp2
  go_loopg [6] (2 * n + 2) (fun gf s6 wr => ∃ (m : Bool) (cm : List Bool), s6 = .bool m ∧ cm.length = n ∧ SndC RB ns cm ∧ (m = false → ClsC ns roots cm n n) ∧ 2 * falses cm + (if m then 1 else 0) ≤ gf ∧ Own w wr [rowE w.heap.size 4 (bs cm)])
  case atStart => exact ⟨true, List.replicate n false, rfl, by simp, (fun i hi => by
      exfalso
      rw [List.getD_eq_getElem?_getD] at hi
      simp [List.getElem?_replicate] at hi
      split at hi <;> simp at hi), (fun h => by cases h), by have := falses_le (List.replicate n false); simp at this ⊢; omega, hS⟩
  case round =>
    clear hS
    obtain ⟨m, cm, rfl, hcl, hsn, hcs, hmm, hS⟩ := hrel
    have HCL := Lib.hid hcl
    have HSN := Lib.hid hsn
    have HCS := Lib.hid hcs
    have HMM := Lib.hid hmm
    clear hcl hsn hcs hmm
    cases m with
    | false =>
      have HFIN := Lib.hid (HCS.out rfl)
      have hS0 := hS.nilR w.heap.size 29
      clear hS
      go_wp2
      go_loopw [10, 11] (fun v i wr => ∃ k : Nat, k ≤ n ∧ i = .int .i64 k ∧ Own w wr [rowsE w.heap.size 29 v (comeL ns cm k), rowE w.heap.size 4 (bs cm)]) (fun _ i _ => n - (intOf i).toNat)
      case atStart => exact ⟨0, by omega, rfl, hS0⟩
      case round =>
        clear hS0
        obtain ⟨k, hk, rfl, hS⟩ := hrel
        by_cases hlt : k < n
        · have q1 : (k : Int) < (n : Int) := by omega
          have q2 : (k : Int) < 1024 := by have := HL.out; omega
          have hcell := (hS.row 1 rfl).cell k
          rw [bs_get cm k (by rw [HCL.out]; exact hlt)] at hcell
          have hcs := comeL_succ ns cm k
          obtain ⟨b, off, hA, hc, -⟩ := HN.out.sum k (by rw [HN0.out]; exact hlt)
          have hxe : (kv.getD k nd0).1 = xn ns k := (HRO.out.at_ k (by rw [HN0.out]; exact hlt)).1
          have hxl := HX.out k hlt
          have hcll := comeL_len ns cm k
          rw [hxe] at hc
          subst hA
          obtain ⟨x, hx⟩ : ∃ x, x = xn ns k := ⟨_, rfl⟩
          rw [← hx] at hc hxl hcs
          obtain ⟨tb, htb⟩ : ∃ tb, tb = cm.getD k false := ⟨_, rfl⟩
          rw [← htb] at hcell hcs
          have HCSS := Lib.hid hcs
          have HC := Lib.hid hc
          have HXL := Lib.hid hxl
          have HCLL := Lib.hid hcll
          clear hcs hc hxl hxe hx htb hcll hlt
          cases tb with
          | false =>
            have HC2 := Lib.hid (show comeL ns cm (k + 1) = comeL ns cm k by rw [HCSS.out]; simp)
            go_wp2
            go_roundw
            case rel => exact ⟨k + 1, by omega, by go_num, by rw [HC2.out]; exact hS⟩
            case measure => simp [intOf] <;> omega
          | true =>
            have HC2 := Lib.hid (show comeL ns cm (k + 1) = comeL ns cm k ++ [x] by rw [HCSS.out]; simp)
            have HC3 := Lib.hid (fun j u hu => hS.cell (HC.out j u hu))
            go_wp2_with (first | (refine wp_load rfl 29 (.tmp 77) rfl Try.underlying29 rfl ⟨b, off + k * 33, none⟩ rfl (c8 x) (info_a32 x HXL.out) HC3.out ?_) | (refine wp_built1 rfl 35 (.tmp 78) rfl 29 Try.underlying35 32 info_za (by omega) (by omega) (c8 x) (by rw [c8_length]; exact HXL.out) rfl ?_))
            intro w7 hr hg
            have hS8 := hS.new hr hg
            clear hS hr hg hcell HC3
            go_wp2_with (refine wp_appR rfl (.tmp 73) (.tmp 79) 35 rfl 29 Try.underlying35 info_ra (comeL ns cm k) (comeL ns cm (k + 1)) rfl (hS8.rows 1 rfl) _ 1 1 [x] rfl (fun y hy => by rw [List.mem_singleton.1 hy]; exact HXL.out) (by simpa using src_row (hS8.row 0 rfl)) rfl HC2.out (by have := HCLL.out; have := HL.out; simp only [List.length_cons, List.length_nil]; omega) hS8.size ?_)
            intro v' w8 ho hg hv
            have hS9 := (hS8.appendR 1 rfl ho hg (by simpa using hv)).tail
            clear hS8 ho hg hv
            go_wp2
            go_roundw
            case rel => exact ⟨k + 1, by omega, by go_num, hS9⟩
            case measure => simp [intOf] <;> omega
        · obtain rfl : k = n := by omega
          have q1 : ¬ ((k : Int) < (k : Int)) := by omega
          go_wp2
          go_ret
          exact ⟨_, rfl, cm, HCL.out, HSN.out, HFIN.out, hS.sub ((List.nil_sublist _).cons_cons _)⟩
    | true =>
      obtain ⟨fc, hfc⟩ : ∃ fc, fc = 2 * falses cm := ⟨_, rfl⟩
      have HF := Lib.hid (show fc + 1 ≤ gk from by have := HMM.out; rw [hfc]; simpa using this)
      have HFC := Lib.hid (show 2 * falses cm ≤ fc by omega)
      clear HMM HCS hfc
      go_wp2
      go_loopw [6, 7] (fun s6 s7 wr => ∃ (m : Bool) (cm' : List Bool) (i : Nat), s6 = .bool m ∧ s7 = .int .i64 i ∧ i ≤ n ∧ cm'.length = n ∧ SndC RB ns cm' ∧ (m = false → ClsC ns roots cm' n i) ∧ 2 * falses cm' + (if m then 2 else 0) ≤ fc ∧ Own w wr [rowE w.heap.size 4 (bs cm')]) (fun _ s7 _ => n - (intOf s7).toNat)
      case atStart => exact ⟨false, cm, 0, rfl, rfl, by omega, HCL.out, HSN.out, (fun _ j hj => absurd hj (by omega)), by simpa using HFC.out, hS⟩
      case round =>
        clear hS HCL HSN HFC
        clear cm
        obtain ⟨m, cm, i, rfl, rfl, hi, hcl, hsn, hcs, hmm, hS⟩ := hrel
        have HCL := Lib.hid hcl
        have HSN := Lib.hid hsn
        have HCS := Lib.hid hcs
        have HMM := Lib.hid hmm
        clear hcl hsn hcs hmm
        by_cases hlt : i < n
        · have q1 : (i : Int) < (n : Int) := by omega
          have q2 : (i : Int) < 1024 := by have := HL.out; omega
          have hcell := (hS.row 0 rfl).cell i
          rw [bs_get cm i (by rw [HCL.out]; exact hlt)] at hcell
          obtain ⟨tb, htb⟩ : ∃ tb, tb = cm.getD i false := ⟨_, rfl⟩
          rw [← htb] at hcell
          have HTB := Lib.hid htb
          have HLTI := Lib.hid hlt
          clear htb hlt
          cases tb with
          | true =>
            have HC2 := Lib.hid (show m = false → ClsC ns roots cm n (i + 1) from fun hm => (HCS.out hm).step (fun h => by rw [← HTB.out] at h; cases h))
            go_wp2
            go_roundw
            case rel => exact ⟨m, cm, i + 1, rfl, by go_num, by omega, HCL.out, HSN.out, HC2.out, HMM.out, hS⟩
            case measure => simp [intOf] <;> omega
          | false =>
            obtain ⟨b, off, hA, hc, -⟩ := HN.out.sum i (by rw [HN0.out]; exact HLTI.out)
            have hxe : (kv.getD i nd0).1 = xn ns i := (HRO.out.at_ i (by rw [HN0.out]; exact HLTI.out)).1
            have hxl := HX.out i HLTI.out
            rw [hxe] at hc
            subst hA
            have HIZ := Lib.hid (isU_zero ns roots cm i)
            have HIS := Lib.hid (isU_succ ns roots cm i)
            have HIU := Lib.hid (HU.out cm i HLTI.out HSN.out)
            obtain ⟨x, hx⟩ : ∃ x, x = xn ns i := ⟨_, rfl⟩
            rw [← hx] at hc hxl HIZ HIS HIU
            have HC := Lib.hid hc
            have HXE := Lib.hid hx
            have HC3 := Lib.hid (fun j u hu => hS.cell (HC.out j u hu))
            have HXL := Lib.hid hxl
            have HIN := Lib.hid (fun (W : World) (hg : w.grownBy W none) => in_any A1 c1 roots.length roots x W rfl (HR.out.keep hg) HXL.out (by have := HL1.out; omega))
            clear hc hxl hxe hx
            go_wp2_with (refine wp_load rfl 29 (.tmp 30) rfl Try.underlying29 rfl ⟨b, off + i * 33, none⟩ rfl (c8 x) (info_a32 x HXL.out) HC3.out ?_)
            refine (HIN.out _ hS.grown).mono ?_
            rintro e w2 ⟨rfl, hg⟩
            have hS2 := hS.call hg
            rw [← HIZ.out]
            clear hg hS HC3 hcell HIN
            go_wp2
            go_loopw [8, 9] (fun s8 s9 wr => ∃ (k : Nat), s8 = .bool (isU ns roots cm i k) ∧ s9 = .int .i64 k ∧ k ≤ n ∧ Own w wr [rowE w.heap.size 4 (bs cm)]) (fun _ s9 _ => n - (intOf s9).toNat)
            case atStart => exact ⟨0, rfl, rfl, by omega, hS2⟩
            case round =>
              clear hS2
              obtain ⟨k, rfl, rfl, hk, hS⟩ := hrel
              by_cases hlk : k < n
              · have p1 : (k : Int) < (n : Int) := by omega
                have p2 : (k : Int) < 1024 := by have := HL.out; omega
                have HSU := Lib.hid (HIS.out k)
                obtain ⟨ib, hib⟩ : ∃ ib, ib = isU ns roots cm i k := ⟨_, rfl⟩
                rw [← hib]
                rw [← hib] at HSU
                clear hib
                cases ib with
                | true =>
                  have HSU2 := Lib.hid (show isU ns roots cm i (k + 1) = true by rw [HSU.out]; rfl)
                  go_wp2
                  have hS1 := hS.drew
                  clear hS
                  refine wp_region_mixC (fun W => Own w W _) (fun _ => true) [(0, true), (1, true), (2, true), (3, true), (4, true), (5, true), (6, true), (7, true), (8, true), (9, true), (10, true), (11, true), (12, true), (13, true), (14, true), (15, true), (16, true), (17, true), (18, true), (19, true), (20, false)] (by kernel_rfl) (by kernel_rfl) hS1 ?_
                  iterate 2 (refine wpMix_step rfl (fun K hK => ?_); go_simp; (try go_bits); with_reducible refine hK _ ?_; clear hK K)
                  iterate 17 (refine wpMix_skipK rfl rfl (fun K hK => ?_); go_simp; with_reducible refine hK _ ?_; clear hK K)
                  iterate 1 (refine wpMix_step rfl (fun K hK => ?_); go_simp; (try go_bits); with_reducible refine hK _ ?_; clear hK K)
                  refine wpMix_loudW _ rfl rfl ?_
                  go_wp2_with fail
                  refine wpMix_next' (fun _ => hS1) ?_
                  unfold wpMix
                  go_wp2
                  go_roundw
                  case rel => exact ⟨k + 1, by rw [HSU2.out], by go_num, by omega, hS1⟩
                  case measure => simp [intOf] <;> omega
                | false =>
                  have hck := bs_get cm k (by rw [HCL.out]; exact hlk)
                  obtain ⟨cb, hcb⟩ : ∃ cb, cb = cm.getD k false := ⟨_, rfl⟩
                  rw [← hcb] at hck HSU
                  have HCK := Lib.hid hck
                  clear hck hcb
                  cases cb with
                  | false =>
                    have HSU2 := Lib.hid (show isU ns roots cm i (k + 1) = false by rw [HSU.out]; rfl)
                    go_wp2
                    have hS1 := hS.drew
                    clear hS
                    refine wp_region_mixC (fun W => Own w W _) (fun _ => true) [(0, true), (1, true), (2, true), (3, true), (4, true), (5, true), (6, true), (7, true), (8, true), (9, true), (10, true), (11, true), (12, true), (13, true), (14, true), (15, true), (16, true), (17, true), (18, true), (19, true), (20, false)] (by kernel_rfl) (by kernel_rfl) hS1 ?_
                    iterate 5 (refine wpMix_step rfl (fun K hK => ?_); go_simp; (try go_bits); with_reducible refine hK _ ?_; clear hK K)
                    refine wpMix_pureW _ rfl rfl (fun W hW => run_load_cell 4 (.tmp 43) rfl Try.underlying4 rfl ⟨w.heap.size, k, none⟩ rfl _ (((hW.row 0 rfl).cell k).trans HCK.out)) ?_
                    iterate 1 (refine wpMix_step rfl (fun K hK => ?_); go_simp; (try go_bits); with_reducible refine hK _ ?_; clear hK K)
                    iterate 11 (refine wpMix_skipK rfl rfl (fun K hK => ?_); go_simp; with_reducible refine hK _ ?_; clear hK K)
                    iterate 2 (refine wpMix_step rfl (fun K hK => ?_); go_simp; (try go_bits); with_reducible refine hK _ ?_; clear hK K)
                    refine wpMix_loudW _ rfl rfl ?_
                    go_wp2_with fail
                    refine wpMix_next' (fun _ => hS1) ?_
                    unfold wpMix
                    go_wp2
                    go_roundw
                    case rel => exact ⟨k + 1, by rw [HSU2.out], by go_num, by omega, hS1⟩
                    case measure => simp [intOf] <;> omega
                  | true =>
                    obtain ⟨b', off', hA', -, hto⟩ := HN.out.sum k (by rw [HN0.out]; exact hlk)
                    injection hA' with hA'
                    injection hA' with e1 e2
                    subst e1
                    subst e2
                    obtain ⟨hx2, At, ct, hv, hrw⟩ := HRO.out.at_ k (by rw [HN0.out]; exact hlk)
                    have htl := HLT.out k
                    have hrw' : Rows32 w At ct (tn ns k) := hrw
                    have hv' : (kv.getD k nd0).2 = .slice At (tn ns k).length ct := hv
                    rw [hv'] at hto
                    obtain ⟨to, htoe⟩ : ∃ to, to = tn ns k := ⟨_, rfl⟩
                    rw [← htoe] at hto htl hrw' HSU
                    have HTOC := Lib.hid hto
                    have HIN := Lib.hid (fun (W : World) (hg : w.grownBy W none) => in_any At ct to.length to x W rfl (hrw'.keep hg) HXL.out (by omega))
                    have HSU2 := Lib.hid (show isU ns roots cm i (k + 1) = decide (x ∈ to) by rw [HSU.out]; rfl)
                    clear hx2 hv hrw hv' hto htoe htl hrw'
                    go_wp2
                    have hS1 := hS.drew
                    clear hS
                    refine wp_region_mixC (fun W => Own w W _) (fun _ => true) [(0, true), (1, true), (2, true), (3, true), (4, true), (5, true), (6, true), (7, true), (8, true), (9, true), (10, true), (11, true), (12, true), (13, true), (14, true), (15, true), (16, true), (17, false), (18, true), (19, true), (20, false)] (by kernel_rfl) (by kernel_rfl) hS1 ?_
                    iterate 5 (refine wpMix_step rfl (fun K hK => ?_); go_simp; (try go_bits); with_reducible refine hK _ ?_; clear hK K)
                    refine wpMix_pureW _ rfl rfl (fun W hW => run_load_cell 4 (.tmp 43) rfl Try.underlying4 rfl ⟨w.heap.size, k, none⟩ rfl _ (((hW.row 0 rfl).cell k).trans HCK.out)) ?_
                    iterate 5 (refine wpMix_step rfl (fun K hK => ?_); go_simp; (try go_bits); with_reducible refine hK _ ?_; clear hK K)
                    refine wpMix_pureW (.slice At to.length ct) rfl rfl (fun W hW => run_load_cell 35 (.tmp 49) rfl Try.underlying35 rfl ⟨b, off + k * 33 + 32, none⟩ rfl _ (hW.cell HTOC.out)) ?_
                    iterate 4 (refine wpMix_step rfl (fun K hK => ?_); go_simp; (try go_bits); with_reducible refine hK _ ?_; clear hK K)
                    refine wpMix_pureW (.agg (c8 x).toArray) rfl rfl (fun W hW => run_load_op 29 (.tmp 54) rfl Try.underlying29 rfl ⟨b, off + i * 33, none⟩ rfl _ (info_a32 x HXL.out) (fun j u hu => hW.cell (HC.out j u hu))) ?_
                    refine wpMix_loudW _ rfl rfl ?_
                    go_wp2_with fail
                    refine (HIN.out _ hS1.grown).mono ?_
                    rintro e w3 ⟨rfl, hg⟩
                    have hS3 := hS1.call hg
                    clear hg hS1
                    go_wp2_with fail
                    refine wpMix_next' (fun _ => hS3) ?_
                    iterate 2 (refine wpMix_step rfl (fun K hK => ?_); go_simp; (try go_bits); with_reducible refine hK _ ?_; clear hK K)
                    refine wpMix_loudW _ rfl rfl ?_
                    go_wp2_with fail
                    refine wpMix_next' (fun _ => hS3) ?_
                    unfold wpMix
                    go_wp2
                    go_roundw
                    case rel => exact ⟨k + 1, by rw [HSU2.out], by go_num, by omega, hS3⟩
                    case measure => simp [intOf] <;> omega
              · obtain rfl : k = n := by omega
                have p1 : ¬ ((k : Int) < (k : Int)) := by omega
                obtain ⟨ib, hib⟩ : ∃ ib, ib = isU ns roots cm i k := ⟨_, rfl⟩
                rw [← hib]
                have HIB := Lib.hid hib
                clear hib
                cases ib with
                | false =>
                  have HC2 := Lib.hid (show m = false → ClsC ns roots cm k (i + 1) from fun hm => (HCS.out hm).step (fun _ => HIB.out.symm))
                  go_wp2
                  go_roundw
                  case rel => exact ⟨m, cm, i + 1, rfl, by go_num, by have := HLTI.out; omega, HCL.out, HSN.out, HC2.out, HMM.out, hS⟩
                  case measure => have := HLTI.out; simp [intOf] <;> omega
                | true =>
                  have hcc := (hS.row 0 rfl).cell i
                  rw [bs_get cm i (by rw [HCL.out]; exact HLTI.out)] at hcc
                  have hfz := (hS.row 0 rfl).frozen i
                  have HSN2 := Lib.hid (HSN.out.set (HXE.out ▸ HIU.out HIB.out.symm))
                  have HFS := Lib.hid (show 2 * falses (cm.set i true) + 2 ≤ fc by
                    have := falses_set cm i (by rw [HCL.out]; exact HLTI.out) HTB.out.symm
                    have := HMM.out
                    omega)
                  have hS5 := hS.set 0 rfl i (.bool true)
                  rw [bs_set] at hS5
                  simp only [List.set_cons_zero] at hS5
                  go_wp2
                  go_roundw
                  case rel => exact ⟨true, cm.set i true, i + 1, rfl, by go_num, by have := HLTI.out; omega, by rw [List.length_set]; exact HCL.out, HSN2.out, (fun h => by cases h), by simpa using HFS.out, hS5⟩
                  case measure => have := HLTI.out; simp [intOf] <;> omega
        · obtain rfl : i = n := by omega
          have q1 : ¬ ((i : Int) < (i : Int)) := by omega
          clear hlt
          have HE := Lib.hid (show 2 * falses cm + (if m then 1 else 0) < gk by
            have := HMM.out
            have := HF.out
            cases m <;> simp at * <;> omega)
          go_wp2
          go_roundg (2 * falses cm + (if m then 1 else 0))
          case rel => exact ⟨m, cm, rfl, HCL.out, HSN.out, HCS.out, Nat.le_refl _, hS⟩
          case measure => exact HE.out
end Go.Proofs.Ytnlnkojcbjaeeaa
