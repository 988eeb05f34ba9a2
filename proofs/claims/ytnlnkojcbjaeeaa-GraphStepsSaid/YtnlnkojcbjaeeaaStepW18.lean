/- (*Marker).Step. -/
import Derived.Test.YtnlnkojcbjaeeaaRefs18
import Derived.Test.YtnlnkojcbjaeeaaPot18
namespace Go.Proofs.Ytnlnkojcbjaeeaa
set_option linter.unusedVariables false
set_option linter.unusedSimpArgs false
set_option linter.unusedSectionVars false
open Go.RowKit
set_option linter.unusedVariables false
def keysOf (blk : KV) : List Dg := blk.map (·.1)
theorem hasKV_mem (blk : KV) (d : Dg) : hasKV blk d = decide (d ∈ keysOf blk) := by
  unfold hasKV keysOf
  rw [Bool.eq_iff_iff, List.any_eq_true, decide_eq_true_eq, List.mem_map]
  constructor
  · rintro ⟨p, hp, h⟩; exact ⟨p, hp, by simpa using h⟩
  · rintro ⟨p, hp, h⟩; exact ⟨p, hp, by simpa using h⟩
theorem put_new {blk : KV} {d : Dg} (h : d ∉ keysOf blk) (v : Value) : putKV blk d v = blk ++ [(d, v)] := by
  unfold putKV
  rw [hasKV_mem, if_neg (by simpa using h)]
theorem Units.snoc {blk : KV} (h : Units blk) (d : Dg) : Units (blk ++ [(d, .agg #[])]) := by
  intro p hp
  rcases List.mem_append.1 hp with hp | hp
  · exact h p hp
  · rw [List.mem_singleton.1 hp]
theorem keysOf_snoc (blk : KV) (d : Dg) (v : Value) : keysOf (blk ++ [(d, v)]) = keysOf blk ++ [d] := by simp [keysOf]
theorem grayEdges_take (bk l : List Dg) (j : Nat) (hj : j < l.length) : grayEdges bk (l.take (j + 1)) = grayEdges bk (l.take j) ++ (if l.getD j [] ∈ bk then [] else [l.getD j []]) := by
  have e : l.take (j + 1) = l.take j ++ [l.getD j []] := by rw [List.take_succ_eq_append_getElem hj]; simp [hj]
  rw [e]
  unfold grayEdges
  rw [List.filter_append]
  congr 1
  split <;> simp_all
theorem grayEdges_len (bk l : List Dg) (j : Nat) : (grayEdges bk (l.take j)).length ≤ (grayEdges bk l).length := by
  unfold grayEdges
  exact ((List.take_sublist j l).filter _).length_le
/-- the marker's and the graph's blocks -/
abbrev mkL (K G M B base : Nat) (v : Value) (blk : KV) (gray : List Dg) (kv : KV) (L : List Ent) : List Ent := kE K G v B :: mapE B blk :: qE base v gray :: gE G M :: mapE M kv :: L
theorem pot_len (ns : Nodes) (g b : List Dg) : g.length ≤ pot ns (g, b) := by unfold pot; simp
theorem lookU2 {w : World} {b : Nat} {kv : KV} (h : MapAt w b kv) (hu : Units kv) (k : Dg) (hk : k.length = 32) {t : Bool} (ht : hasKV kv k = t) :
    (Instr.lookup MB (.map (some b)) (dgv k) true).run Try.prog w = .ok (.tuple #[.agg #[], .bool t]) w := by
  rw [← ht]; exact lookU h hu k hk
set_option maxRecDepth 100000 in
set_option maxHeartbeats 2000000 in
theorem step_any (w0 w : World) (K G M B base : Nat) (v : Value) (blk : KV) (gray : List Dg) (kv : KV) (ns : Nodes) (L : List Ent) (N : Int) (hb : base ≤ w0.heap.size) (hN : N ≤ 9223372036854775807) (hU : Units blk) (he : EdgesIn L kv ns) (hl : ∀ p ∈ ns, p.2.length ≤ 4096)
    (hp : pot ns (gray, keysOf blk) ≤ 100000) (hS : Own w0 w (mkL K G M B base v blk gray kv L)) :
    Calls Try.prog 20 #[.pointer (some ⟨K, 0, none⟩), .int .i64 N] w fun e w' => ∃ v' blk', e = .returned (.bool (decide ((stepM ns N.toNat (gray, keysOf blk)).1 = []))) ∧ Units blk' ∧ keysOf blk' = (stepM ns N.toNat (gray, keysOf blk)).2 ∧
      Own w0 w' (mkL K G M B base v' blk' (stepM ns N.toNat (gray, keysOf blk)).1 kv L) := by
  have HE := Lib.hid he
  have HL := Lib.hid hl
  have HB := Lib.hid hb
  have HP := Lib.hid hp
  have HU := Lib.hid hU
  obtain ⟨res, hres⟩ : ∃ res, res = stepM ns N.toNat (gray, keysOf blk) := ⟨_, rfl⟩
  have HR := Lib.hid hres
  rw [← hres]
  clear he hl hb hp hU hres
  go_enter Try.func20, Try.ntmps20
  go_wp2
  go_loopw [1] (fun n wr => ∃ (m : Int) (v : Value) (blk : KV) (gray : List Dg), n = .int .i64 m ∧ m ≤ 9223372036854775807 ∧ Units blk ∧ res = stepM ns m.toNat (gray, keysOf blk) ∧ pot ns (gray, keysOf blk) ≤ 100000 ∧ Own w0 wr (mkL K G M B base v blk gray kv L)) (fun n _ => (intOf n).toNat)
  case atStart => exact ⟨N, v, blk, gray, rfl, hN, HU.out, HR.out, HP.out, hS⟩
  case round =>
    clear hS HR HP HU hN
    clear v blk gray
    obtain ⟨m, v, blk, gray, rfl, hm, hU, hres, hp, hS⟩ := hrel
    have HU := Lib.hid hU
    have HR := Lib.hid hres
    have HP := Lib.hid hp
    clear hU hres hp
    have hq := hS.que 2 rfl
    by_cases hm0 : 0 < m
    · have t0 : decide (0 < m) = true := by simpa using hm0
      cases gray with
      | nil =>
        obtain ⟨A, c, rfl, -, -⟩ := hq.open_
        have hr2 : res = ([], keysOf blk) := by rw [HR.out, stepM_nil]
        have HR2 := Lib.hid hr2
        have c1 := (hS.mkr 0 rfl).cell 1
        simp at c1
        clear hr2 hq
        go_wp2
        go_ret
        rw [HR2.out]
        exact ⟨_, _, by simp, HU.out, rfl, hS⟩
      | cons d g =>
        obtain ⟨A, c, rfl, hrows, hc⟩ := hq.open_
        have hd := hrows.all d (by simp)
        have HD := Lib.hid hd
        obtain ⟨b, off, rfl, hcell⟩ := hrows.at_ 0 (by simp)
        have HC := Lib.hid hcell
        have hle := hrows.le
        have HRows := Lib.hid hrows
        have c1 := (hS.mkr 0 rfl).cell 1
        have f1 := (hS.mkr 0 rfl).frozen 1
        simp at c1
        have HPot := Lib.hid (pot_look ns d g (keysOf blk))
        have HLen := Lib.hid (pot_len ns (d :: g) (keysOf blk))
        have htl := hq.tail
        have hsl := fun W => run_from32 (P := Try.prog) Try.underlying32 size_d (some ⟨b, off, none⟩) (d :: g).length c 1 (by simp) hle W
        clear hd hcell hrows hq
        go_wp2_with (first | (refine wp_load rfl 30 (.tmp 32) rfl Try.underlying30 rfl ⟨b, off, none⟩ rfl (c8 d) (info_dg d HD.out) (by simpa using HC.out) ?_) | (refine wp_alloc (o := ⟨some 5, _, _, _, _, _⟩) rfl 30 rfl _ alloc_d ?_))
        intro w1 hr hg hz
        clear hz
        have hS1 := hS.new hr hg
        clear hr hg hS c1 f1
        go_wp2_with (refine wp_storeAgg rfl 30 (.tmp 5) (.tmp 33) rfl wr.heap.size 0 30 zd (c8 d) rfl rfl (hS1.row 0 rfl) (info_dg d HD.out) (by rw [c8_length, HD.out]; decide) (one8 _) ?_)
        intro w2 hr hg hz
        clear hz
        rw [splice_all (by rw [c8_length, HD.out]; decide)] at hr
        have hS2 := hS1.setRow 0 rfl hr hg
        simp only [List.set_cons_zero] at hS2
        clear hr hg hS1
        -- the queue without its head
        have ht2 := ((hS2.que 3 rfl).tail).1
        have hbk := htl.2
        obtain ⟨A1, c1', hv1, -, -⟩ := ht2.open_
        have hS3 := hS2.turn (e' := qE base (.slice A1 g.length c1') g) (i := 3) rfl (queueE_good _ _ _ _) (by rw [← hv1]; exact ht2) (by rw [← hv1]; exact hbk)
        simp only [List.set_cons_zero, List.set_cons_succ] at hS3
        have hsl2 : ∀ W : World, (Instr.slice 32 (.slice (some ⟨b, off, none⟩) (d :: g).length c) (some (.int .i64 1)) none none).run Try.prog W = .ok (.slice A1 g.length c1') W := fun W => by rw [← hv1]; exact hsl W
        have hsl3 : ∀ W : World, (Instr.slice 32 (.slice (some ⟨b, off, none⟩) (g.length + 1) c) (some (.int .i64 1)) none none).run Try.prog W = .ok (.slice A1 g.length c1') W := hsl2
        clear hsl hsl2 htl hbk hv1 ht2 hS2 hle
        have c1 := (hS3.mkr 1 rfl).cell 1
        have f1 := (hS3.mkr 1 rfl).frozen 1
        simp at c1
        go_wp2
        have hS4 := hS3.set 1 rfl 1 (.slice A1 g.length c1')
        simp only [List.set_cons_zero, List.set_cons_succ] at hS4
        clear hS3 c1 f1 hsl3
        obtain ⟨lv, hlv⟩ : ∃ lv, (lookKV kv d).getD (.slice none 0 0) = lv := ⟨_, rfl⟩
        have HV := Lib.hid hlv
        obtain ⟨tk, htk⟩ : ∃ tk, hasKV kv d = tk := ⟨_, rfl⟩
        have HTK := Lib.hid htk
        obtain ⟨tb, htb⟩ : ∃ tb, hasKV blk d = tb := ⟨_, rfl⟩
        have HTB := Lib.hid htb
        clear hlv htk htb
        have hS5 := hS4.drew
        clear hS4
        refine wp_region_mixC (fun W => Own w0 W _) (fun _ => true) [(0, true), (1, true), (2, true), (3, true), (4, true), (5, true), (6, true), (7, true), (8, true), (9, true), (10, true), (11, true), (12, false), (13, false)] (by kernel_rfl) (by kernel_rfl) hS5 ?_
        iterate 3 (refine wpMix_step rfl (fun K hK => ?_); go_simp; (try go_bits); with_reducible refine hK _ ?_; clear hK K)
        refine wpMix_pureW _ rfl rfl (fun W hW => run_load_cell 24 (.tmp 45) rfl Try.underlying24 rfl ⟨K, 0, none⟩ rfl _ (((hW.row 1 rfl).cell 0).trans rfl)) ?_
        iterate 2 (refine wpMix_step rfl (fun K hK => ?_); go_simp; (try go_bits); with_reducible refine hK _ ?_; clear hK K)
        refine wpMix_pureW _ rfl rfl (fun W hW => run_load_cell 70 (.tmp 48) rfl Try.underlying70 rfl ⟨G, 0, none⟩ rfl _ (((hW.row 4 rfl).cell 0).trans rfl)) ?_
        refine wpMix_pureW (.agg (c8 d).toArray) rfl rfl (fun W hW => run_load_op 30 (.tmp 5) rfl Try.underlying30 rfl ⟨wr.heap.size, 0, none⟩ rfl _ (info_dg d HD.out) (row_all (hW.row 0 rfl))) ?_
        refine wpMix_pureW _ rfl rfl (fun W hW => run_lookup_op MG (.tmp 49) (.tmp 50) rfl M d rfl rfl _ (lookG2 (hW.map 5 rfl) d HD.out HV.out HTK.out)) ?_
        iterate 3 (refine wpMix_step rfl (fun K hK => ?_); go_simp; (try go_bits); with_reducible refine hK _ ?_; clear hK K)
        refine wpMix_loudW _ rfl rfl ?_
        go_wp2_with fail
        refine wpMix_next' (fun _ => hS5) ?_
        refine wpMix_loudW _ rfl rfl ?_
        go_wp2_with fail
        refine wpMix_next' (fun _ => hS5) ?_
        unfold wpMix
        go_wp2
        have hS6 := hS5.drew
        clear hS5
        refine wp_region_mixC (fun W => Own w0 W _) (fun _ => true) [(0, true), (1, true), (2, true), (3, true), (4, true), (5, true), (6, true), (7, true), (8, true), (9, false), (10, false), (11, false)] (by kernel_rfl) (by kernel_rfl) hS6 ?_
        iterate 3 (refine wpMix_step rfl (fun K hK => ?_); go_simp; (try go_bits); with_reducible refine hK _ ?_; clear hK K)
        refine wpMix_pureW _ rfl rfl (fun W hW => run_load_cell 77 (.tmp 57) rfl Try.underlying77 rfl ⟨K, 2, none⟩ rfl _ (((hW.row 1 rfl).cell 2).trans rfl)) ?_
        refine wpMix_pureW (.agg (c8 d).toArray) rfl rfl (fun W hW => run_load_op 30 (.tmp 5) rfl Try.underlying30 rfl ⟨wr.heap.size, 0, none⟩ rfl _ (info_dg d HD.out) (row_all (hW.row 0 rfl))) ?_
        refine wpMix_pureW _ rfl rfl (fun W hW => run_lookup_op MB (.tmp 58) (.tmp 59) rfl B d rfl rfl _ (lookU2 (hW.map 2 rfl) HU.out d HD.out HTB.out)) ?_
        iterate 3 (refine wpMix_step rfl (fun K hK => ?_); go_simp; (try go_bits); with_reducible refine hK _ ?_; clear hK K)
        refine wpMix_loudW _ rfl rfl ?_
        go_wp2_with fail
        have hS7 := hS6.call (World.grownBy_alloc _ (.cells #[] 76) none)
        clear hS6
        refine wpMix_next' (fun _ => hS7) ?_
        refine wpMix_loudW _ rfl rfl ?_
        go_wp2_with fail
        refine wpMix_next' (fun _ => hS7) ?_
        refine wpMix_loudW _ rfl rfl ?_
        go_wp2_with fail
        refine wpMix_next' (fun _ => hS7) ?_
        unfold wpMix
        cases tb with
        | true =>
          have hdk : d ∈ keysOf blk := by have := HTB.out; rw [hasKV_mem] at this; exact of_decide_eq_true this
          have hlm := lookM_old ns d g (keysOf blk) hdk
          have HL2 := Lib.hid hlm
          have HR2 := Lib.hid (show res = stepM ns (m - 1).toNat (g, keysOf blk) by rw [HR.out, show m.toNat = (m - 1).toNat + 1 by omega, ← hlm]; rfl)
          have HP2 := Lib.hid (show pot ns (g, keysOf blk) ≤ 100000 by have h1 := HPot.out; have h2 := HP.out; rw [hlm] at h1; omega)
          clear hdk hlm
          go_wp2
          go_roundw
          case rel => exact ⟨m - 1, _, blk, g, by go_num, by omega, HU.out, HR2.out, HP2.out, hS7.tail⟩
          case measure => simp [intOf]; omega
        | false =>
          cases tk with
          | false =>
            have hed : edgesOf ns d = none := by have := HE.out.has d; rw [HTK.out] at this; simpa using this.symm
            have hlm := lookM_none ns d g (keysOf blk) hed
            have HR2 := Lib.hid (show res = stepM ns (m - 1).toNat (g, keysOf blk) by rw [HR.out, show m.toNat = (m - 1).toNat + 1 by omega, ← hlm]; rfl)
            have HP2 := Lib.hid (show pot ns (g, keysOf blk) ≤ 100000 by have h1 := HPot.out; have h2 := HP.out; rw [hlm] at h1; omega)
            clear hed hlm
            go_wp2
            go_roundw
            case rel => exact ⟨m - 1, _, blk, g, by go_num, by omega, HU.out, HR2.out, HP2.out, hS7.tail⟩
            case measure => simp [intOf]; omega
          | true =>
            obtain ⟨l, hed⟩ : ∃ l, edgesOf ns d = some l := by have := HE.out.has d; rw [HTK.out] at this; exact Option.isSome_iff_exists.1 this.symm
            have hdk : d ∉ keysOf blk := by have := HTB.out; rw [hasKV_mem] at this; exact of_decide_eq_false this
            obtain ⟨lv', base', hlv, hmem⟩ := HE.out.look d hed
            obtain rfl : lv = lv' := by have := HV.out; rw [hlv] at this; exact this.symm
            obtain ⟨Al, cl, rfl, hrl, -⟩ := ownsR_open (show OwnsR _ base' 30 lv l from (hS7.good (rowsE base' 30 lv l) (by repeat (first | exact hmem | apply List.mem_cons_of_mem))).2.1)
            have hll : l.length ≤ 4096 := by
              obtain ⟨p, hp, hpl⟩ := Option.map_eq_some_iff.1 (show (ns.find? (fun p => p.1 == d)).map (·.2) = some l from hed)
              rw [← hpl]; exact HL.out p (List.mem_of_find?_eq_some hp)
            have hlm := lookM_new ns d g (keysOf blk) l hed hdk
            have HR2 := Lib.hid (show res = stepM ns (m - 1).toNat (g ++ grayEdges (keysOf blk ++ [d]) l, keysOf blk ++ [d]) by rw [HR.out, show m.toNat = (m - 1).toNat + 1 by omega, ← hlm]; rfl)
            have HP2 := Lib.hid (show pot ns (g ++ grayEdges (keysOf blk ++ [d]) l, keysOf blk ++ [d]) ≤ 100000 by have h1 := HPot.out; have h2 := HP.out; rw [hlm] at h1; omega)
            have HPN := Lib.hid (put_new hdk (.agg #[]))
            have HLL := Lib.hid hll
            have HRL := Lib.hid hrl
            have HM := Lib.hid hmem
            clear hed hdk hlv hmem hrl hll hlm
            go_wp2
            have hS8 := hS7.drew
            clear hS7
            refine wp_region_mixC (fun W => Own w0 W _) (fun i => i != 6) [(0, true), (1, true), (2, true), (3, true), (4, true), (5, true), (6, false)] (by kernel_rfl) (by kernel_rfl) hS8 ?_
            iterate 3 (refine wpMix_step rfl (fun K hK => ?_); go_simp; (try go_bits); with_reducible refine hK _ ?_; clear hK K)
            refine wpMix_pureW _ rfl rfl (fun W hW => run_load_cell 77 (.tmp 70) rfl Try.underlying77 rfl ⟨K, 2, none⟩ rfl _ (((hW.row 1 rfl).cell 2).trans rfl)) ?_
            refine wpMix_pureW (.agg (c8 d).toArray) rfl rfl (fun W hW => run_load_op 30 (.tmp 5) rfl Try.underlying30 rfl ⟨wr.heap.size, 0, none⟩ rfl _ (info_dg d HD.out) (row_all (hW.row 0 rfl))) ?_
            iterate 1 (refine wpMix_step rfl (fun K hK => ?_); go_simp; (try go_bits); with_reducible refine hK _ ?_; clear hK K)
            refine wpMix_loudW _ rfl rfl ?_
            refine wp_mapput rfl MB (.tmp 71) (.tmp 72) (.tmp 73) rfl B d (.agg #[]) rfl rfl rfl (putB (hS8.map 2 rfl) d HD.out (.agg #[])) ?_
            intro w9 hm9 hg9
            rw [HPN.out] at hm9
            have hS9 := hS8.mapSet 2 rfl hm9 hg9
            simp only [List.set_cons_zero, List.set_cons_succ] at hS9
            clear hm9 hg9 hS8
            go_wp2_with fail
            refine wpMix_next' (fun h => by cases h) ?_
            unfold wpMix
            go_wp2
            clear HPN HTB HTK HV HC HRows HPot HLen
            have HU2 := Lib.hid (HU.out.snoc d)
            have hk2 : keysOf (blk ++ [(d, .agg #[])]) = keysOf blk ++ [d] := keysOf_snoc blk d _
            obtain ⟨blk2, hblk2⟩ : ∃ blk2, blk2 = blk ++ [(d, Value.agg #[])] := ⟨_, rfl⟩
            obtain ⟨bk2, hbk2⟩ : ∃ bk2, bk2 = keysOf blk ++ [d] := ⟨_, rfl⟩
            rw [← hblk2] at hS9 HU2 hk2
            rw [← hbk2] at hk2 HR2 HP2
            have HK2 := Lib.hid hk2
            obtain ⟨D0, hD0⟩ : ∃ D0, D0 = wr.heap.size := ⟨_, rfl⟩
            rw [← hD0] at hS9 ⊢
            clear hblk2 hbk2 hk2 hD0
            go_loopw [76] (fun i wx => ∃ (j : Nat) (v' : Value), i = .int .i64 (j : Int) ∧ j ≤ l.length ∧ Own w0 wx (rowE D0 30 (c8 d) :: mkL K G M B base v' blk2 (g ++ grayEdges bk2 (l.take j)) kv L)) (fun i _ => l.length - (intOf i).toNat)
            case atStart => exact ⟨0, .slice A1 g.length c1', rfl, by omega, by rw [List.take_zero, show g ++ grayEdges bk2 [] = g by simp [grayEdges]]; exact hS9⟩
            case round =>
              clear hS9
              obtain ⟨j, v', rfl, hj, hS⟩ := hrel
              have hQL := grayEdges_len bk2 l j
              have hPL := pot_len ns (g ++ grayEdges bk2 l) bk2
              have HQL := Lib.hid (show (g ++ grayEdges bk2 (l.take j)).length ≤ 100000 by have := HP2.out; simp only [List.length_append] at *; omega)
              clear hQL hPL
              by_cases hlt : j < l.length
              · have q1 : (j : Int) < (l.length : Int) := by omega
                have q2 : (j : Int) ≤ 4096 := by have := HLL.out; omega
                obtain ⟨-, hrl, -⟩ := own_slice (hS.good (rowsE base' 30 (.slice Al l.length cl) l) (by repeat (first | exact HM.out | apply List.mem_cons_of_mem))).2.1
                obtain ⟨b2, off2, rfl, hcell⟩ := hrl.at_ j hlt
                have HX := Lib.hid (hrl.all.at_ j hlt)
                have HT := Lib.hid (grayEdges_take bk2 l j hlt)
                obtain ⟨x, hx⟩ : ∃ x, x = l.getD j [] := ⟨_, rfl⟩
                rw [← hx] at hcell HX HT
                have HC := Lib.hid hcell
                obtain ⟨Q, hQ⟩ : ∃ Q, Q = g ++ grayEdges bk2 (l.take j) := ⟨_, rfl⟩
                rw [← hQ] at hS HQL
                have HQ := Lib.hid hQ
                obtain ⟨tx, htx⟩ : ∃ tx, hasKV blk2 x = tx := ⟨_, rfl⟩
                have HTX := Lib.hid htx
                obtain ⟨A2, c2, rfl, -, -⟩ := (hS.que 3 rfl).open_
                clear hrl hcell hx hQ htx
                go_wp2_with (first | (refine wp_load rfl 30 (.tmp 78) rfl Try.underlying30 rfl ⟨b2, off2 + j * 32, none⟩ rfl (c8 x) (info_dg x HX.out) HC.out ?_) | (refine wp_alloc (o := ⟨some 11, _, _, _, _, _⟩) rfl 30 rfl _ alloc_d ?_))
                intro w10 hr hg hz
                clear hz
                have hS10 := hS.new hr hg
                clear hr hg hS
                go_wp2_with (refine wp_storeAgg rfl 30 (.tmp 11) (.tmp 79) rfl wr.heap.size 0 30 zd (c8 x) rfl rfl (hS10.row 0 rfl) (info_dg x HX.out) (by rw [c8_length, HX.out]; decide) (one8 _) ?_)
                intro w11 hr hg hz
                clear hz
                rw [splice_all (by rw [c8_length, HX.out]; decide)] at hr
                have hS11 := hS10.setRow 0 rfl hr hg
                simp only [List.set_cons_zero] at hS11
                clear hr hg hS10
                go_wp2
                have hS12 := hS11.drew
                clear hS11
                refine wp_region_mixC (fun W => Own w0 W _) (fun _ => true) [(0, true), (1, true), (2, true), (3, true), (4, true), (5, true), (6, true), (7, true), (8, true), (9, false), (10, false), (11, false)] (by kernel_rfl) (by kernel_rfl) hS12 ?_
                iterate 3 (refine wpMix_step rfl (fun K hK => ?_); go_simp; (try go_bits); with_reducible refine hK _ ?_; clear hK K)
                refine wpMix_pureW _ rfl rfl (fun W hW => run_load_cell 77 (.tmp 83) rfl Try.underlying77 rfl ⟨K, 2, none⟩ rfl _ (((hW.row 2 rfl).cell 2).trans rfl)) ?_
                refine wpMix_pureW (.agg (c8 x).toArray) rfl rfl (fun W hW => run_load_op 30 (.tmp 11) rfl Try.underlying30 rfl ⟨wr.heap.size, 0, none⟩ rfl _ (info_dg x HX.out) (row_all (hW.row 0 rfl))) ?_
                refine wpMix_pureW _ rfl rfl (fun W hW => run_lookup_op MB (.tmp 84) (.tmp 85) rfl B x rfl rfl _ (lookU2 (hW.map 3 rfl) HU2.out x HX.out HTX.out)) ?_
                iterate 3 (refine wpMix_step rfl (fun K hK => ?_); go_simp; (try go_bits); with_reducible refine hK _ ?_; clear hK K)
                refine wpMix_loudW _ rfl rfl ?_
                go_wp2_with fail
                have hS13 := hS12.call (World.grownBy_alloc _ (.cells #[] 76) none)
                clear hS12
                refine wpMix_next' (fun _ => hS13) ?_
                refine wpMix_loudW _ rfl rfl ?_
                go_wp2_with fail
                refine wpMix_next' (fun _ => hS13) ?_
                refine wpMix_loudW _ rfl rfl ?_
                go_wp2_with fail
                refine wpMix_next' (fun _ => hS13) ?_
                unfold wpMix
                cases tx with
                | true =>
                  have hin : x ∈ bk2 := by have := HTX.out; rw [hasKV_mem, HK2.out] at this; exact of_decide_eq_true this
                  have HN := Lib.hid (show g ++ grayEdges bk2 (l.take (j + 1)) = Q by rw [HT.out, if_pos hin, HQ.out, List.append_nil])
                  clear hin
                  go_wp2
                  go_roundw
                  case rel => exact ⟨j + 1, _, by go_num, by omega, by rw [HN.out]; exact hS13.tail⟩
                  case measure => simp [intOf]; omega
                | false =>
                  have hin : x ∉ bk2 := by have := HTX.out; rw [hasKV_mem, HK2.out] at this; exact of_decide_eq_false this
                  have HN := Lib.hid (show g ++ grayEdges bk2 (l.take (j + 1)) = Q ++ [x] by rw [HT.out, if_neg hin, HQ.out, List.append_assoc])
                  have hbs := Nat.le_trans HB.out hS13.size
                  clear hin
                  go_wp2
                  have c1 := (hS13.mkr 2 rfl).cell 1
                  have hS14 := hS13.drew
                  have HBS := Lib.hid hbs
                  clear hS13 c1 hbs
                  refine wp_region_mixC (fun W => Own w0 W [rowE wr.heap.size 30 (c8 x), rowE D0 30 (c8 d), kE K G (.slice A2 Q.length c2) B]) (fun i => i != 10) [(0, true), (1, true), (2, true), (3, true), (4, true), (5, true), (6, false), (7, false), (8, false), (9, false), (10, false)] (by kernel_rfl) (by kernel_rfl) (hS14.sub ((((List.nil_sublist _).cons_cons _).cons_cons _).cons_cons _)) ?_
                  iterate 4 (refine wpMix_step rfl (fun K hK => ?_); go_simp; (try go_bits); with_reducible refine hK _ ?_; clear hK K)
                  refine wpMix_pureW _ rfl rfl (fun W hW => run_load_cell 32 (.tmp 94) rfl Try.underlying32 rfl ⟨K, 1, none⟩ rfl _ (((hW.row 2 rfl).cell 1).trans rfl)) ?_
                  refine wpMix_pureW (.agg (c8 x).toArray) rfl rfl (fun W hW => run_load_op 30 (.tmp 11) rfl Try.underlying30 rfl ⟨wr.heap.size, 0, none⟩ rfl _ (info_dg x HX.out) (row_all (hW.row 0 rfl))) ?_
                  refine wpMix_loudW _ rfl rfl ?_
                  refine wp_built1 rfl 32 (.tmp 96) rfl 30 Try.underlying32 32 info_zd (by omega) (by omega) (c8 x) (by rw [c8_length, HX.out]) rfl ?_
                  intro w14 hr hg
                  have hS15 := hS14.new hr hg
                  have HR15 := Lib.hid hr
                  have hb15 : base ≤ w14.heap.size := Nat.le_trans HB.out hS15.size
                  clear hr hg hS14
                  go_wp2_with fail
                  refine wpMix_next' (fun _ => hS15.tail.sub ((((List.nil_sublist _).cons_cons _).cons_cons _).cons_cons _)) ?_
                  refine wpMix_loudW _ rfl rfl ?_
                  refine wp_appQ rfl (.tmp 95) (.tmp 97) 32 rfl 30 Try.underlying32 info_rd Q (Q ++ [x]) rfl (hS15.que 5 rfl) ⟨_, 0, none⟩ 1 1 [x] rfl (by intro y hy; rw [List.mem_singleton.1 hy]; exact HX.out) (by rw [show c8 [x].flatten = c8 x from by simp]; exact row_all HR15.out) rfl rfl (by have := HQL.out; simp; omega) hb15 ?_
                  intro v5 w15 ho hg hv
                  have hS16 := hS15.write 5 rfl (queueE_good _ _ _ _) ho hg hv
                  simp only [List.set_cons_zero, List.set_cons_succ] at hS16
                  obtain ⟨A5, c5, rfl, -, -⟩ := ho.open_
                  clear ho hg hv hS15 hb15
                  go_wp2_with fail
                  refine wpMix_next' (fun _ => hS16.tail.sub ((((List.nil_sublist _).cons_cons _).cons_cons _).cons_cons _)) ?_
                  refine wpMix_loudW _ rfl rfl ?_
                  go_wp2_with fail
                  refine wpMix_next' (fun _ => hS16.tail.sub ((((List.nil_sublist _).cons_cons _).cons_cons _).cons_cons _)) ?_
                  refine wpMix_loudW _ rfl rfl ?_
                  go_wp2_with fail
                  refine wpMix_next' (fun _ => hS16.tail.sub ((((List.nil_sublist _).cons_cons _).cons_cons _).cons_cons _)) ?_
                  have cK := (hS16.mkr 3 rfl).cell 1
                  have fK := (hS16.mkr 3 rfl).frozen 1
                  simp at cK
                  refine wpMix_loudW _ rfl rfl ?_
                  go_wp2_with fail
                  refine wpMix_next' (fun h => by cases h) ?_
                  unfold wpMix
                  have hS17 := hS16.set 3 rfl 1 (.slice A5 (Q ++ [x]).length c5)
                  simp only [List.set_cons_zero, List.set_cons_succ] at hS17
                  rw [show (Q ++ [x]).length = Q.length + 1 by simp] at hS17
                  clear hS16
                  have hS18 := hS17.tail.tail
                  clear hS17 cK fK
                  go_wp2
                  go_roundw
                  case rel => exact ⟨j + 1, _, by go_num, by omega, by rw [HN.out]; exact hS18⟩
                  case measure => simp [intOf]; omega
              · obtain rfl : j = l.length := by omega
                have q1 : ¬ ((l.length : Int) < (l.length : Int)) := by omega
                rw [List.take_length] at hS
                have HS := Lib.hid hS
                clear hS hlt hj
                go_wp2
                go_roundw
                case rel => exact ⟨m - 1, v', blk2, _, by go_num, by omega, HU2.out, by rw [HK2.out]; exact HR2.out, by rw [HK2.out]; exact HP2.out, HS.out.tail⟩
                case measure => simp [intOf]; omega
    · have t0 : decide (0 < m) = false := by simpa using hm0
      obtain ⟨A, c, rfl, -, -⟩ := hq.open_
      have hr2 : res = (gray, keysOf blk) := by rw [HR.out, show m.toNat = 0 by omega]; rfl
      have HR2 := Lib.hid hr2
      have c1 := (hS.mkr 0 rfl).cell 1
      simp at c1
      have q0 : (decide ((gray.length : Int) = 0)) = decide (gray = []) := by rw [decide_eq_decide]; constructor <;> intro h <;> simp_all
      have HQ0 := Lib.hid q0
      clear hr2 q0 hq
      go_wp2
      go_ret
      rw [HR2.out]
      refine ⟨?_, _, _, HU.out, rfl, hS⟩
      show Ending.returned (.bool ((gray.length : Int) == 0)) = _
      rw [show ((gray.length : Int) == 0) = decide (gray = []) by rw [← HQ0.out]; rfl]
end Go.Proofs.Ytnlnkojcbjaeeaa
