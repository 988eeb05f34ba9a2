/- The statement GraphPlays' walk. -/
import Derived.Test.YtnlnkojcbjaeeaaDoes18
import Derived.Test.YtnlnkojcbjaeeaaWf
namespace Go.Proofs.Ytnlnkojcbjaeeaa
set_option linter.unusedVariables false
set_option linter.unusedSimpArgs false
set_option linter.unusedSectionVars false
open Go.RowKit
set_option linter.unusedVariables false
theorem NdIn.val_at {w : World} {b off c : Nat} {kv : KV} (h : NdIn w (some ⟨b, off, none⟩) c kv) (i : Nat) (hi : i < kv.length) : w.cell? ⟨b, off + i * 33 + 32, none⟩ = some (kv.getD i nd0).2 := by
  obtain ⟨b', off', h1, -, h3⟩ := h.sum i hi
  injection h1 with h1
  injection h1 with e1 e2
  subst e1; subst e2
  exact h3
theorem NdIn.sum_at {w : World} {b off c : Nat} {kv : KV} (h : NdIn w (some ⟨b, off, none⟩) c kv) (i : Nat) (hi : i < kv.length) : ∀ j u, (c8 (kv.getD i nd0).1)[j]? = some u → w.cell? ((⟨b, off + i * 33, none⟩ : Addr).add j) = some u := by
  obtain ⟨b', off', h1, h2, -⟩ := h.sum i hi
  injection h1 with h1
  injection h1 with e1 e2
  subst e1; subst e2
  exact h2
theorem Pl.add {w0 w w' : World} {G M K B Rr : Nat} {v rv gv bv : Value} {blk kv rkv : KV} {gray : List Dg} {ns lr : Nodes} {L : List Ent} {k : Nat} (h : Pl w0 w G M K B Rr v rv gv bv blk kv rkv gray ns lr L k) {e : Ent} (hS : Own w0 w' (e :: plL w0 G M K B Rr v rv gv bv blk kv rkv gray L)) :
    Pl w0 w' G M K B Rr v rv gv bv blk kv rkv gray ns lr (e :: L) k :=
  ⟨h.un, h.ag, h.low, h.rlow, h.len, h.rlen, h.gl, h.bl, h.ed.more, h.er.more, by
    have h2 := (hS.pickT (P := [_, _, _, _, _, _, _, _, _, _]) (L' := [_, _, _, _, _, _, _, _, _, _]) [1, 2, 3, 4, 5, 6, 7, 8, 9, 0] (by decide) rfl)
    exact h2⟩
theorem info_op : (Try.prog.info? 51).map (·.size) = some 4 := by kernel_rfl
theorem alloc_op (W : World) : (Instr.alloc 51 true (.tuple #[])).run Try.prog W = .ok (.pointer (some ⟨W.heap.size, 0, none⟩)) (W.alloc (.cells ([.int .i64 0, .int .u8 0, .slice none 0 0, .int .i64 0] : List Value).toArray 51)) := by kernel_rfl
theorem one_op (k : Int) (d : UInt8) (B : Option Addr) (l c : Nat) (n : Int) : ∀ v ∈ opC k d B l c n, v.oneCell' = true := by
  intro v hv
  simp [opC] at hv
  rcases hv with rfl | rfl | rfl | rfl <;> rfl
theorem opAt_cells {w : World} {b o : Nat} {k : Int} {d : UInt8} {B : Option Addr} {l c : Nat} {n : Int} (h0 : w.cell? ⟨b, o, none⟩ = some (.int .i64 k)) (h1 : w.cell? ⟨b, o + 1, none⟩ = some (.int .u8 (n8 d))) (h2 : w.cell? ⟨b, o + 2, none⟩ = some (.slice B l c)) (h3 : w.cell? ⟨b, o + 3, none⟩ = some (.int .i64 n)) :
    ∀ j v, (opC k d B l c n)[j]? = some v → w.cell? ((⟨b, o, none⟩ : Addr).add j) = some v := by
  intro j v hv
  rw [addr_add]
  match j, hv with
  | 0, hv => simp [opC] at hv; subst hv; exact h0
  | 1, hv => simp [opC] at hv; subst hv; exact h1
  | 2, hv => simp [opC] at hv; subst hv; exact h2
  | 3, hv => simp [opC] at hv; subst hv; exact h3
  | n + 4, hv => simp [opC] at hv
theorem built_mk0 : Try.prog.built 56 [] = some ([.slice none 0 0, .slice none 0 0] : List Value).toArray := by kernel_rfl
set_option maxRecDepth 100000 in
set_option maxHeartbeats 16000000 in
theorem walk_GraphPlays (w : World) (A2 : Option Addr) (n2 c2 : Nat) (O : List OpV) (hn2 : O.length = n2) (hO : OpsIn w A2 O) (hc2 : n2 ≤ c2) :
    Calls Try.prog 6 #[.slice A2 n2 c2] w fun e w' => e = .returned (.bool true) ∧ w.grownBy w' none := by
  have HO := Lib.hid hO
  have HN2 := Lib.hid hn2
  clear hO hc2 hn2
  go_enter Try.func6, Try.ntmps6
  go_wp2_with fail
  refine (newG_any w).mono ?_
  rintro e w1 ⟨G, M, rfl, hS1⟩
  go_wp2_with fail
  refine (mark_any w1 G none 0 [] (Rows32.none_ w1) (by simp)).mono ?_
  rintro e w2 ⟨K, B, v, rfl, hT⟩
  have hS2 := (hS1.join hT).lowerQ 2 rfl
  simp only [List.cons_append, List.nil_append, List.set_cons_zero, List.set_cons_succ] at hS2
  clear hT hS1
  go_wp2_with (first | (refine wp_built rfl 56 _ rfl [] rfl _ built_mk0 ?_) | (refine wp_box (o := ⟨some 21, _, _, _, _, _⟩) rfl 56 (.tmp 20) rfl [.slice none 0 0, .slice none 0 0] rfl ?_))
  intro w3 hr hg hz
  clear hz
  have hS3 := (((hS2.new hr hg).nilN w.heap.size).nilR w.heap.size 29)
  have hS4 := hS3.newE (e := qR w.heap.size (.slice none 0 0) []) (grownBy_refl _ _) (queueE_good _ _ _ _) ⟨L32.nil, .inl ⟨rfl, rfl⟩⟩ (fun k hk => by cases hk)
  have hS5 := (hS4.pickT (P := [_, _, _, _, _, _, _, _, _]) (L' := [_, _, _, _, _, _, _, _, _]) [4, 5, 6, 7, 8, 3, 0, 1, 2] (by decide) rfl)
  obtain ⟨Rr, hRr⟩ : ∃ Rr, Rr = w2.heap.size := ⟨_, rfl⟩
  rw [← hRr] at hS5
  rw [← hRr]
  have hP0 : Pst w w3 G M K Rr (.slice none 0 0) 0 := ⟨B, v, .slice none 0 0, .slice none 0 0, [], [], [], [], [], [], [], (by intro p hp; cases hp), Agree.nil, (fun p hp => by cases hp), (fun p hp => by cases hp), by simp, by simp, by simp, by simp [keysOf], .nil, .nil, hS5⟩
  have HP0 := Lib.hid hP0
  have hSg := hS5.grown
  clear hS2 hS3 hS4 hS5 hr hg hRr hP0
  go_wp2_with fail
  refine (awake_any _).mono ?_
  rintro e w4 ⟨rfl, hg⟩
  have hP1 : Pst w w4 G M K Rr (.slice none 0 0) 0 := by
    obtain ⟨B, v, gv, bv, blk, kv, rkv, gray, ns, lr, L, hP⟩ := HP0.out
    exact ⟨B, v, gv, bv, blk, kv, rkv, gray, ns, lr, L, hP.un, hP.ag, hP.low, hP.rlow, hP.len, hP.rlen, hP.gl, hP.bl, hP.ed, hP.er, hP.own.call hg⟩
  clear HP0 hSg hg
  go_wp2
  go_loopw [4, 6, 30] (fun s4 s6 s30 wr => ∃ (j K : Nat), s4 = .pointer (some ⟨K, 0, none⟩) ∧ s30 = .int .i64 (j : Int) ∧ j ≤ n2 ∧ j ≤ 60 ∧ Pst w wr G M K Rr s6 j) (fun _ _ s30 _ => n2 - (intOf s30).toNat)
  case atStart => exact ⟨0, K, rfl, rfl, by omega, by omega, hP1⟩
  case round =>
    clear hP1
    clear B v
    obtain ⟨j, K, rfl, rfl, hj, hj60, hPst⟩ := hrel
    obtain ⟨B, v, gv, bv, blk, kv, rkv, gray, ns, lr, L, hP⟩ := hPst
    by_cases hlt : j < n2
    · have q1 : (j : Int) < (n2 : Int) := by omega
      obtain ⟨b2, off2, rfl, hop⟩ := HO.out j (by rw [HN2.out]; exact hlt)
      obtain ⟨h0, h1, ⟨OB, oc, h2, hOB, hoc, hoc2, honil⟩, h3, hwk, hwn⟩ := hop
      have hS := hP.own
      have hcells := opAt_cells (hS.cell h0) (hS.cell h1) (hS.cell h2) (hS.cell h3)
      obtain ⟨x, hx⟩ : ∃ x, x = O.getD j opZ := ⟨_, rfl⟩
      rw [← hx] at hcells hOB hoc hwk hwn
      obtain ⟨ok, od, oto, on⟩ := x
      simp only at hcells hOB hoc hwk hwn
      have HC := Lib.hid hcells
      have HOB := Lib.hid hOB
      have HOC := Lib.hid hoc
      have HOC2 := Lib.hid hoc2
      have HON := Lib.hid honil
      have HWN := Lib.hid (of_i64 hwn)
      have HP := Lib.hid hP
      clear h0 h1 h2 h3 hcells hOB hoc hoc2 honil hwk hwn hx hP
      go_wp2_with (first | (refine wp_load rfl 51 (.tmp 33) rfl Try.underlying51 rfl ⟨b2, off2 + j * 4, none⟩ rfl (opC ok od OB oto.length oc on) info_op HC.out ?_) | (refine wp_alloc (o := ⟨some 8, _, _, _, _, _⟩) rfl 51 rfl _ alloc_op ?_))
      intro w5 hr hg hz
      clear hz
      have hS5 := hS.new hr hg
      clear hr hg hS
      go_wp2_with (refine wp_storeAgg rfl 51 (.tmp 8) (.tmp 34) rfl wr.heap.size 0 51 [.int .i64 0, .int .u8 0, .slice none 0 0, .int .i64 0] (opC ok od OB oto.length oc on) rfl rfl (hS5.row 0 rfl) info_op (by simp [opC]) (one_op _ _ _ _ _ _) ?_)
      intro w6 hr hg hz
      clear hz
      rw [splice_all (by simp [opC])] at hr
      have hS6 := hS5.setRow 0 rfl hr hg
      simp only [List.set_cons_zero] at hS6
      clear hr hg hS5
      by_cases h60 : j < 60
      · have q2 : (j : Int) < 60 := by omega
        have q3 : decide (60 ≤ (j : Int)) = false := decide_eq_false (by omega)
        have kd := does_any w w6 G M K B Rr v _ gv bv blk kv rkv gray ns lr _ j (HP.out.add hS6) h60 ok on od oto OB oc HOB.out HOC.out HOC2.out HON.out (by have := HWN.out; omega) (by have := HWN.out; omega)
        go_wp2_with (refine wp_load rfl 51 (.tmp 8) rfl Try.underlying51 rfl ⟨wr.heap.size, 0, none⟩ rfl (opC ok od OB oto.length oc on) info_op (row_all (hS6.row 0 rfl)) ?_)
        refine kd.mono ?_
        rintro e w7 ⟨K7, rv7, rfl, hP7⟩
        clear kd hS6 HP HC HOB HOC HOC2 HON HWN
        clear B v gv bv blk kv rkv gray ns lr L
        obtain ⟨B, v, gv, bv, blk, kv, rkv, gray, ns, lr, L, hP⟩ := hP7
        obtain ⟨An, cn, rfl, -, -⟩ := ownsN_open (hP.own.nodes 8 rfl)
        obtain ⟨Ag, cg, rfl, -, -⟩ := (hP.own.quR 6 rfl).open_
        obtain ⟨nb, hnb⟩ : ∃ m, m = (keysOf blk).length := ⟨_, rfl⟩
        obtain ⟨Ab, cb, rfl, -, -⟩ := ownsR_at (hP.own.blR 7 rfl) hnb.symm
        have HNB := Lib.hid hnb
        have HP := Lib.hid hP
        have hS := hP.own
        clear hP hnb
        go_wp2_with fail
        have hnd := (hS.map 4 rfl).nodup
        have HKN := Lib.hid hnd
        have hlk : kv.length ≤ 4096 := by have h1 := All2.len HP.out.ed; have h2 := HP.out.len; omega
        have hSn := (hS.pickT (P := [_, _, _, _, _, _, _, _, _]) (L' := [_, _, _, _, _, _, _, _, _]) [3, 4, 0, 1, 2, 5, 6, 7, 8] (by decide) rfl)
        refine (nodesG_any w _ G M kv _ hSn hlk).mono ?_
        clear hSn hlk hnd
        rintro e w8 ⟨v8, R, rfl, hpR, hri, hT⟩
        have hRk : R = keysR lr := nodes_eq HP.out.ag HP.out.ed HKN.out hpR hri
        have hrl : R.length = rkv.length := by rw [hRk, All2.len HP.out.er]; simp [keysR]
        have hS8 := (hS.join hT).lower 0 rfl
        simp only [List.cons_append, List.nil_append, List.set_cons_zero, List.set_cons_succ] at hS8
        obtain ⟨A8, c8', rfl, -, -⟩ := ownsR_at (hT.rows 0 rfl) hrl
        have HRK := Lib.hid hRk
        have HRL := Lib.hid hrl
        clear hT hS hpR hri hRk hrl
        go_wp2_with fail
        have hS9 := hS8.drew
        clear hS8
        refine wp_region_mixC (fun W => Own w W _) (fun _ => true) [(0, true), (1, true), (2, true), (3, true), (4, true), (5, true), (6, true), (8, true), (9, true), (10, true), (11, true), (12, true), (7, false), (13, true), (14, true)] (by kernel_rfl) (by kernel_rfl) hS9 ?_
        iterate 7 (refine wpMix_step rfl (fun K hK => ?_); go_simp; (try go_bits); with_reducible refine hK _ ?_; clear hK K)
        iterate 3 (refine wpMix_step rfl (fun K hK => ?_); go_simp; (try go_bits); with_reducible refine hK _ ?_; clear hK K)
        refine wpMix_pureW _ rfl rfl (fun W hW => run_load_cell 35 (.tmp 65) rfl Try.underlying35 rfl ⟨Rr, 0, none⟩ rfl _ (((hW.row 6 rfl).cell 0).trans rfl)) ?_
        iterate 1 (refine wpMix_step rfl (fun K hK => ?_); go_simp; (try go_bits); with_reducible refine hK _ ?_; clear hK K)
        have kleft : ∀ W, Own w W (rowsE w.heap.size 30 (.slice A8 rkv.length c8') R :: plL w G M K7 B Rr v (.slice An rkv.length cn) (.slice Ag gray.length cg) (.slice Ab nb cb) blk kv rkv gray L) → Calls Try.prog 19 #[.pointer (some ⟨K7, 0, none⟩)] W fun e w' => e = .returned (.int .i64 (gray.length : Int)) ∧ W.grownBy w' none := fun W hW => by
          have h := (hW.pickT (P := [_, _, _, _, _, _, _, _, _, _]) (L' := [_, _, _, _, _, _, _, _, _, _]) [1, 3, 0, 2, 4, 5, 6, 7, 8, 9] (by decide) rfl)
          exact left_any w W K7 G B v gray _ w.heap.size h
        refine wpMix_loudW _ rfl rfl ?_
        go_wp2_with fail
        refine (kleft _ hS9).mono ?_
        rintro e w10 ⟨rfl, hg⟩
        have hS10 := hS9.call hg
        clear hg hS9
        go_wp2_with fail
        refine wpMix_next' (fun _ => hS10) ?_
        iterate 2 (refine wpMix_step rfl (fun K hK => ?_); go_simp; (try go_bits); with_reducible refine hK _ ?_; clear hK K)
        unfold wpMix
        clear kleft
        obtain ⟨LST, hLST⟩ : ∃ LST, LST = rowsE w.heap.size 30 (.slice A8 rkv.length c8') R :: plL w G M K7 B Rr v (.slice An rkv.length cn) (.slice Ag gray.length cg) (.slice Ab nb cb) blk kv rkv gray L := ⟨_, rfl⟩
        rw [← hLST] at hS10
        have HLST := Lib.hid hLST
        clear hLST
        go_wp2_with fail
        go_loopw [70] (fun i wr => ∃ (k : Nat), i = .int .u8 (k : Int) ∧ k ≤ 18 ∧ Own w wr LST) (fun i _ => 18 - (intOf i).toNat)
        case atStart => exact ⟨0, rfl, by omega, hS10⟩
        case round =>
          clear hS10
          obtain ⟨k, rfl, hk, hS⟩ := hrel
          by_cases hlt : k < 18
          · have q1 : (k : Int) < 18 := by omega
            obtain ⟨d, hd⟩ : ∃ d, d = nodeL (UInt8.ofNat k) := ⟨_, rfl⟩
            have hkn := node_of k (by omega)
            rw [← hd] at hkn
            have HNOD := Lib.hid (show ∀ W, Calls Try.prog 10 #[.int .u8 (k : Int)] W fun e w' => e = .returned (.agg (c8 d).toArray) ∧ W.grownBy w' none from hkn)
            have HD := Lib.hid (show d.length = 32 by rw [hd]; exact nodeL_len _)
            clear hkn hd
            go_wp2_with fail
            refine (HNOD.out _).mono ?_
            rintro e w12 ⟨rfl, hg⟩
            have hS12 := hS.call hg
            clear hg hS
            go_wp2_with (refine wp_alloc (o := ⟨some 12, _, _, _, _, _⟩) rfl 30 rfl _ alloc_d ?_)
            intro w13 hr hg hz
            clear hz
            have hS13 := hS12.new hr hg
            clear hr hg hS12
            go_wp2_with (refine wp_storeAgg rfl 30 (.tmp 12) (.tmp 74) rfl w12.heap.size 0 30 zd (c8 d) rfl rfl (hS13.row 0 rfl) (info_dg d HD.out) (by rw [c8_length, HD.out]; decide) (one8 _) ?_)
            intro w14 hr hg hz
            clear hz
            rw [splice_all (by rw [c8_length, HD.out]; decide)] at hr
            have hS14 := hS13.setRow 0 rfl hr hg
            simp only [List.set_cons_zero] at hS14
            clear hr hg hS13
            obtain ⟨Db, hDb⟩ : ∃ x, x = w12.heap.size := ⟨_, rfl⟩
            rw [← hDb] at hS14
            rw [← hDb]
            clear hDb HNOD
            -- what the graph says of the sum
            obtain ⟨is, his⟩ : ∃ is, is = (edgesOf ns d).isSome := ⟨_, rfl⟩
            obtain ⟨l, hl⟩ : ∃ l, l = (edgesOf ns d).getD [] := ⟨_, rfl⟩
            have hS14' := hS14
            rw [HLST.out] at hS14'
            have hhas : hasKV kv d = is := by rw [his]; exact HP.out.ed.has d
            have hll : l.length ≤ 12 := by
              rw [hl]
              cases he : edgesOf ns d with
              | none => simp
              | some l' =>
                obtain ⟨p, hp, hpl⟩ := Option.map_eq_some_iff.1 (show (ns.find? (fun p => p.1 == d)).map (·.2) = some l' from he)
                show l'.length ≤ 12
                rw [← hpl]; exact HP.out.low p (List.mem_of_find?_eq_some hp)
            have hedge : ∃ lv base, (lookKV kv d).getD (.slice none 0 0) = lv ∧ OwnsR w14 base 30 lv l := by
              rw [hl]
              cases he : edgesOf ns d with
              | none =>
                have h1 := HP.out.ed.has d
                rw [he] at h1
                refine ⟨.slice none 0 0, 0, ?_, ⟨L32.nil, World.ownsRow_nil w14 0 _ 32⟩⟩
                have h2 : lookKV kv d = none := by
                  unfold lookKV
                  have h3 : kv.find? (fun p => p.1 == d) = none := by
                    rw [List.find?_eq_none]
                    intro p hp hpd
                    have : hasKV kv d = true := List.any_eq_true.2 ⟨p, hp, hpd⟩
                    rw [h1] at this; cases this
                  rw [h3]; rfl
                rw [h2]; rfl
              | some l' =>
                obtain ⟨lv, base, h1, h2⟩ := HP.out.ed.look d he
                exact ⟨lv, base, by rw [h1]; rfl, hS14'.ent (by repeat (first | exact h2 | apply List.mem_cons_of_mem))⟩
            obtain ⟨lv, base, hlv, hown⟩ := hedge
            have hSe := (hS14'.pickT (P := [_, _, _, _, _, _, _, _, _, _, _]) (L' := [_, _, _, _, _, _, _, _, _, _, _]) [5, 6, 0, 1, 2, 3, 4, 7, 8, 9, 10] (by decide) rfl)
            have ke := edges_any w w14 G M kv _ d l base lv HD.out hSe hlv hown (by omega)
            rw [hhas] at ke
            have HIS := Lib.hid his
            have HLE := Lib.hid hl
            obtain ⟨n, hn⟩ : ∃ n, n = l.length := ⟨_, rfl⟩
            have HN := Lib.hid hn
            have HN12 := Lib.hid (show n ≤ 12 by omega)
            clear his hl hhas hlv hown hSe hS14' hll hn
            go_wp2_with (refine wp_load rfl 30 (.tmp 12) rfl Try.underlying30 rfl ⟨Db, 0, none⟩ rfl (c8 d) (info_dg d HD.out) (row_all (hS14.row 0 rfl)) ?_)
            refine ke.mono ?_
            rintro e w15 ⟨v13, rfl, ho, hg⟩
            have hS := (hS14.madeR ho hg).lower 0 rfl
            simp only [List.set_cons_zero] at hS
            obtain ⟨A13, c13, rfl, -, -⟩ := ownsR_open ho
            clear ke ho hg hS14
            -- the contracts that are asked
            have hnd : ∀ W, Own w W (rowsE w.heap.size 30 (.slice A13 l.length c13) l :: rowE Db 30 (c8 d) :: LST) → NdIn W An cn rkv := fun W hW => by
              rw [HLST.out] at hW
              obtain ⟨A', c', hv, h2, -⟩ := ownsN_open (hW.nodes 11 rfl)
              injection hv with e1 e2 e3
              subst e1; subst e3
              exact h2
            have hrk : rkv.length ≤ 4096 := by have h1 := All2.len HP.out.er; have h2 := HP.out.rlen; omega
            have hhas2 : hasR rkv d nd0 = is := by rw [has_eq HP.out.ag HP.out.er HD.out, HIS.out]
            have HHAS := Lib.hid (fun (W : World) (h : NdIn W An cn rkv) => hhas2 ▸ has_any An cn rkv.length rkv d W rfl h HD.out hrk)
            have HREFS := Lib.hid (show ∀ W, Own w W (rowsE w.heap.size 30 (.slice A13 l.length c13) l :: rowE Db 30 (c8 d) :: LST) → Calls Try.prog 28 #[.pointer (some ⟨G, 0, none⟩), dgv d] W fun e w' => e = .returned (.int .i64 (countN d ns : Int)) ∧ W.grownBy w' none from fun W hW => by
              rw [HLST.out] at hW
              have h := (hW.pickT (P := [_, _, _, _, _, _, _, _, _, _, _, _]) (L' := [_, _, _, _, _, _, _, _, _, _, _, _]) [6, 7, 0, 1, 2, 3, 4, 5, 8, 9, 10, 11] (by decide) rfl)
              exact refs_any w W G M kv _ d ns HD.out h (HP.out.ed.mono (fun e he => by simp [he])) HP.out.low.wide (by have := HP.out.len; omega))
            have HRREFS := Lib.hid (show ∀ W, Own w W (rowsE w.heap.size 30 (.slice A13 l.length c13) l :: rowE Db 30 (c8 d) :: LST) → Calls Try.prog 29 #[.slice An rkv.length cn, dgv d] W fun e w' => e = .returned (.int .i64 (countN d ns : Int)) ∧ W.grownBy w' none from fun W hW => by
              have h1 := hnd W hW
              rw [HLST.out] at hW
              have h2 : EdgesR (rowsE w.heap.size 30 (.slice A13 l.length c13) l :: rowE Db 30 (c8 d) :: rowsE w.heap.size 30 (.slice A8 rkv.length c8') R :: plL w G M K7 B Rr v (.slice An rkv.length cn) (.slice Ag gray.length cg) (.slice Ab nb cb) blk kv rkv gray L) rkv lr := HP.out.er.mono (fun e he => by simp [he])
              rw [count_eq HP.out.ag HP.out.ed HKN.out d]
              exact rrefs_any An cn rkv.length rkv lr d W rfl h1 (h2.rows hW) HD.out hrk HP.out.rlow.wide)
            have HMARK := Lib.hid (show ∀ W, Own w W (rowsE w.heap.size 30 (.slice A13 l.length c13) l :: rowE Db 30 (c8 d) :: LST) → Calls Try.prog 21 #[.pointer (some ⟨K7, 0, none⟩), dgv d] W fun e w' => e = .returned (.bool (decide (d ∈ keysOf blk))) ∧ W.grownBy w' none from fun W hW => by
              rw [HLST.out] at hW
              have h := (hW.pickT (P := [_, _, _, _, _, _, _, _, _, _, _, _]) (L' := [_, _, _, _, _, _, _, _, _, _, _, _]) [3, 5, 4, 0, 1, 2, 6, 7, 8, 9, 10, 11] (by decide) rfl)
              rw [← hasKV_mem]
              exact marked_any w W K7 G B v blk _ _ d HD.out HP.out.un h)
            have HIN := Lib.hid (show ∀ W, Own w W (rowsE w.heap.size 30 (.slice A13 l.length c13) l :: rowE Db 30 (c8 d) :: LST) → Calls Try.prog 30 #[.slice Ab nb cb, dgv d] W fun e w' => e = .returned (.bool (decide (d ∈ keysOf blk))) ∧ W.grownBy w' none from fun W hW => by
              rw [HLST.out] at hW
              exact in_any Ab cb nb (keysOf blk) d W HNB.out.symm (own_slice (hW.blR 10 rfl)).2.1 HD.out (by have := HP.out.bl; omega))
            have HBV := Lib.hid (show ∀ W, Own w W (rowsE w.heap.size 30 (.slice A13 l.length c13) l :: rowE Db 30 (c8 d) :: LST) → W.cell? ⟨Rr, 1, none⟩ = some (.slice Ab nb cb) from fun W hW => by
              rw [HLST.out] at hW
              exact (hW.rmk 8 rfl).cell 1)
            obtain ⟨mk, hmk⟩ : ∃ mk, mk = decide (d ∈ keysOf blk) := ⟨_, rfl⟩
            rw [← hmk] at HMARK HIN
            obtain ⟨ct, hct⟩ : ∃ ct, ct = countN d ns := ⟨_, rfl⟩
            rw [← hct] at HREFS HRREFS
            clear hmk hct hhas2
            cases is with
            | true =>
              obtain ⟨l', hle⟩ : ∃ l', edgesOf ns d = some l' := Option.isSome_iff_exists.1 HIS.out.symm
              obtain rfl : l = l' := by rw [HLE.out, hle]; rfl
              obtain ⟨hk9, hlk⟩ := find_eq HP.out.ag HP.out.er HD.out hle
              have hfd := fun (W : World) (h : NdIn W An cn rkv) => find_any An cn rkv.length rkv d W rfl h HD.out hrk
              obtain ⟨k9, hke⟩ : ∃ k, k = findR rkv d := ⟨_, rfl⟩
              rw [← hke] at hk9 hlk hfd
              obtain ⟨-, base', hmem⟩ := All2.get HP.out.er nd0 n0 k9 hk9
              have hmem' : rowsE base' 29 (rkv.getD k9 nd0).2 l ∈ L := by rw [← hlk]; exact hmem
              have hmemL : rowsE base' 29 (rkv.getD k9 nd0).2 l ∈ rowsE w.heap.size 30 (.slice A13 l.length c13) l :: rowE Db 30 (c8 d) :: LST := by rw [HLST.out]; repeat (first | exact hmem' | apply List.mem_cons_of_mem)
              obtain ⟨Al, cl, hvl, -, -⟩ := ownsR_open (hS.ent hmemL)
              rw [hvl] at hmemL
              obtain ⟨bn, offn, hAn, -, -⟩ := (hnd _ hS).sum k9 hk9
              subst hAn
              have HND := Lib.hid hnd
              have HVL := Lib.hid hvl
              have HK9 := Lib.hid hk9
              have HFD := Lib.hid hfd
              have q9 : (k9 : Int) < (rkv.length : Int) := by omega
              have HSAME := Lib.hid (show ∀ W, Own w W (rowsE w.heap.size 30 (.slice A13 l.length c13) l :: rowE Db 30 (c8 d) :: LST) → Calls Try.prog 15 #[.slice A13 l.length c13, .slice Al l.length cl] W fun e w' => e = .returned (.bool true) ∧ W.grownBy w' none from fun W hW =>
                same_any A13 Al c13 cl l.length l W rfl (own_slice (hW.rows 0 rfl)).2.1 (own_slice (hW.ent hmemL)).2.1 (by have := HN12.out; have := HN.out; omega))
              clear hle hk9 hlk hfd hke hmem hmem' hvl hnd hrk hmemL
              go_wp2_with fail
              have hS20 := hS.drew
              clear hS
              refine wp_region_mixC (fun W => Own w W _) (fun _ => true) [(0, true), (1, true), (2, true), (3, false), (4, true), (5, true), (6, true), (7, true), (8, true), (9, true), (10, true), (11, true), (12, false), (13, true), (14, true), (15, true), (16, false), (17, true), (18, true), (19, true), (20, true), (21, true), (22, true), (23, true), (24, true), (25, true), (26, true), (27, true), (28, true), (29, true), (30, true), (31, true), (33, true), (34, true), (32, false), (35, false), (36, true), (37, true), (38, true), (39, true), (40, true), (42, true), (43, true), (44, true), (45, true), (46, true), (41, false), (47, false), (48, true), (49, true)] (by kernel_rfl) (by kernel_rfl) hS20 ?_
              iterate 2 (refine wpMix_step rfl (fun K hK => ?_); go_simp; (try go_bits); with_reducible refine hK _ ?_; clear hK K)
              refine wpMix_pureW (.agg (c8 d).toArray) rfl rfl (fun W hW => run_load_op 30 (.tmp 12) rfl Try.underlying30 rfl ⟨Db, 0, none⟩ rfl _ (info_dg d HD.out) (row_all (hW.row 1 rfl))) ?_
              refine wpMix_loudW _ rfl rfl ?_
              go_wp2_with fail
              refine (HHAS.out _ (HND.out _ hS20)).mono ?_
              rintro e w21 ⟨rfl, hg⟩
              have hS21 := hS20.call hg
              clear hg hS20
              go_wp2_with fail
              refine wpMix_next' (fun _ => hS21) ?_
              iterate 4 (refine wpMix_step rfl (fun K hK => ?_); go_simp; (try go_bits); with_reducible refine hK _ ?_; clear hK K)
              iterate 3 (refine wpMix_step rfl (fun K hK => ?_); go_simp; (try go_bits); with_reducible refine hK _ ?_; clear hK K)
              refine wpMix_pureW (.agg (c8 d).toArray) rfl rfl (fun W hW => run_load_op 30 (.tmp 12) rfl Try.underlying30 rfl ⟨Db, 0, none⟩ rfl _ (info_dg d HD.out) (row_all (hW.row 1 rfl))) ?_
              refine wpMix_loudW _ rfl rfl ?_
              go_wp2_with fail
              refine (HFD.out _ (HND.out _ hS21)).mono ?_
              rintro e w22 ⟨rfl, hg⟩
              have hS22 := hS21.call hg
              clear hg hS21
              go_wp2_with fail
              refine wpMix_next' (fun _ => hS22) ?_
              iterate 2 (refine wpMix_step rfl (fun K hK => ?_); go_simp; (try go_bits); with_reducible refine hK _ ?_; clear hK K)
              refine wpMix_pureW (.slice Al l.length cl) rfl rfl (fun W hW => run_load_cell 35 (.tmp 95) rfl Try.underlying35 rfl ⟨bn, offn + k9 * 33 + 32, none⟩ rfl _ (by rw [← HVL.out]; exact (HND.out _ hW).val_at k9 HK9.out)) ?_
              refine wpMix_loudW _ rfl rfl ?_
              go_wp2_with fail
              refine (HSAME.out _ hS22).mono ?_
              rintro e w23 ⟨rfl, hg⟩
              have hS23 := hS22.call hg
              clear hg hS22
              go_wp2_with fail
              refine wpMix_next' (fun _ => hS23) ?_
              iterate 7 (refine wpMix_step rfl (fun K hK => ?_); go_simp; (try go_bits); with_reducible refine hK _ ?_; clear hK K)
              iterate 3 (refine wpMix_skipK rfl rfl (fun K hK => ?_); go_simp; with_reducible refine hK _ ?_; clear hK K)
              iterate 4 (refine wpMix_step rfl (fun K hK => ?_); go_simp; (try go_bits); with_reducible refine hK _ ?_; clear hK K)
              refine wpMix_pureW (.agg (c8 d).toArray) rfl rfl (fun W hW => run_load_op 30 (.tmp 12) rfl Try.underlying30 rfl ⟨Db, 0, none⟩ rfl _ (info_dg d HD.out) (row_all (hW.row 1 rfl))) ?_
              iterate 1 (refine wpMix_step rfl (fun K hK => ?_); go_simp; (try go_bits); with_reducible refine hK _ ?_; clear hK K)
              refine wpMix_pureW (.agg (c8 d).toArray) rfl rfl (fun W hW => run_load_op 30 (.tmp 12) rfl Try.underlying30 rfl ⟨Db, 0, none⟩ rfl _ (info_dg d HD.out) (row_all (hW.row 1 rfl))) ?_
              refine wpMix_loudW _ rfl rfl ?_
              go_wp2_with fail
              refine (HREFS.out _ hS23).mono ?_
              rintro e w24 ⟨rfl, hg⟩
              have hS24 := hS23.call hg
              clear hg hS23
              go_wp2_with fail
              refine wpMix_next' (fun _ => hS24) ?_
              refine wpMix_loudW _ rfl rfl ?_
              go_wp2_with fail
              refine (HRREFS.out _ hS24).mono ?_
              rintro e w25 ⟨rfl, hg⟩
              have hS25 := hS24.call hg
              clear hg hS24
              go_wp2_with fail
              refine wpMix_next' (fun _ => hS25) ?_
              iterate 4 (refine wpMix_step rfl (fun K hK => ?_); go_simp; (try go_bits); with_reducible refine hK _ ?_; clear hK K)
              refine wpMix_pureW (.agg (c8 d).toArray) rfl rfl (fun W hW => run_load_op 30 (.tmp 12) rfl Try.underlying30 rfl ⟨Db, 0, none⟩ rfl _ (info_dg d HD.out) (row_all (hW.row 1 rfl))) ?_
              iterate 3 (refine wpMix_step rfl (fun K hK => ?_); go_simp; (try go_bits); with_reducible refine hK _ ?_; clear hK K)
              refine wpMix_pureW (.slice Ab nb cb) rfl rfl (fun W hW => run_load_cell 35 (.tmp 125) rfl Try.underlying35 rfl ⟨Rr, 1, none⟩ rfl _ (HBV.out W hW)) ?_
              refine wpMix_pureW (.agg (c8 d).toArray) rfl rfl (fun W hW => run_load_op 30 (.tmp 12) rfl Try.underlying30 rfl ⟨Db, 0, none⟩ rfl _ (info_dg d HD.out) (row_all (hW.row 1 rfl))) ?_
              refine wpMix_loudW _ rfl rfl ?_
              go_wp2_with fail
              refine (HMARK.out _ hS25).mono ?_
              rintro e w26 ⟨rfl, hg⟩
              have hS26 := hS25.call hg
              clear hg hS25
              go_wp2_with fail
              refine wpMix_next' (fun _ => hS26) ?_
              refine wpMix_loudW _ rfl rfl ?_
              go_wp2_with fail
              refine (HIN.out _ hS26).mono ?_
              rintro e w27 ⟨rfl, hg⟩
              have hS27 := hS26.call hg
              clear hg hS26
              go_wp2_with fail
              refine wpMix_next' (fun _ => hS27) ?_
              iterate 2 (refine wpMix_step rfl (fun K hK => ?_); go_simp; (try go_bits); with_reducible refine hK _ ?_; clear hK K)
              unfold wpMix
              have hst : 0 < n → ∃ g cs, A13 = some ⟨g, 0, none⟩ ∧ n * 32 ≤ cs.length ∧ Own w w27 (rowE g 30 cs :: rowE Db 30 (c8 d) :: LST) := by
                intro h0
                obtain ⟨g, cs, hA, hrow, hlen⟩ := ownsR_block (hS27.rows 0 rfl) (by rw [← HN.out]; exact h0)
                subst hA
                exact ⟨g, cs, rfl, by rw [HN.out]; exact hlen, hS27.block hrow⟩
              have hS28 := hS27.tail
              clear hS27
              rw [← HN.out]
              go_wp2_with fail
              go_loopw [133] (fun i wr => ∃ j : Nat, i = .int .i64 j ∧ j ≤ n ∧ Own w wr (rowE Db 30 (c8 d) :: LST) ∧ (0 < n → ∃ g cs, A13 = some ⟨g, 0, none⟩ ∧ n * 32 ≤ cs.length ∧ Own w wr (rowE g 30 cs :: rowE Db 30 (c8 d) :: LST))) (fun i _ => n - (intOf i).toNat)
              case atStart => exact ⟨0, rfl, by omega, hS28, hst⟩
              case round =>
                clear hS28 hst
                obtain ⟨j, rfl, hj, hS, hst⟩ := hrel
                by_cases hlt : j < n
                · have p1 : (j : Int) < (n : Int) := by omega
                  have p2 : (j : Int) ≤ 12 := by have := HN12.out; omega
                  obtain ⟨g, cs, rfl, hcs, hSg⟩ := hst (by omega)
                  have HCS := Lib.hid hcs
                  have HJ := Lib.hid hlt
                  clear hst hS hcs hlt
                  go_wp2_with (first | (refine wp_built rfl 30 _ rfl [(0, .int .u8 99)] rfl _ built99 ?_) | (refine wp_storeAgg rfl 30 (.tmp 139) (.tmp 138) rfl g (j * 32) 30 cs (c8 d99) rfl rfl (hSg.row 0 rfl) (info_dg d99 d99_len) (by rw [c8_length, d99_len]; have := HCS.out; have := HJ.out; omega) (one8 _) ?_))
                  intro w14 hr hg hz
                  clear hz
                  have hS14 := hSg.setRow 0 rfl hr hg
                  simp only [List.set_cons_zero] at hS14
                  have HLN := Lib.hid (show n * 32 ≤ (splice cs (j * 32) (c8 d99)).length by rw [splice_len (by rw [c8_length, d99_len]; have := HCS.out; have := HJ.out; omega)]; exact HCS.out)
                  clear hr hg hSg
                  go_wp2
                  go_roundw
                  case rel => exact ⟨j + 1, by go_num, by have := HJ.out; omega, hS14.tail, fun _ => ⟨g, _, rfl, HLN.out, hS14⟩⟩
                  case measure => have := HJ.out; simp [intOf]; omega
                · obtain rfl : j = n := by omega
                  have p1 : ¬ ((j : Int) < (j : Int)) := by omega
                  clear hst
                  have hS29 := hS.tail
                  clear hS
                  go_wp2
                  go_roundw
                  case rel => exact ⟨k + 1, by go_num, by omega, hS29⟩
                  case measure => simp [intOf]; omega
            | false =>
              have HND := Lib.hid hnd
              have hl0 : l = [] := by
                rw [HLE.out]
                have := HIS.out
                cases he : edgesOf ns d with
                | none => rfl
                | some l' => rw [he] at this; cases this
              have t0 : l.length = 0 := by rw [hl0]; rfl
              have t1 : ((l.length : Int) != 0) = false := by rw [hl0]; rfl
              have t2 : ((l.length : Int) == 0) = true := by rw [hl0]; rfl
              clear hnd hrk hl0
              go_wp2_with fail
              have hS20 := hS.drew
              clear hS
              refine wp_region_mixC (fun W => Own w W _) (fun _ => true) [(0, true), (1, true), (2, true), (3, false), (4, true), (5, true), (6, true), (7, true), (8, true), (9, true), (10, true), (11, true), (12, true), (13, true), (14, true), (15, true), (16, true), (17, true), (18, true), (19, true), (20, true), (21, true), (22, true), (23, true), (24, true), (25, true), (26, true), (27, true), (28, true), (29, true), (30, true), (31, true), (33, true), (34, true), (32, false), (35, false), (36, true), (37, true), (38, true), (39, true), (40, true), (42, true), (43, true), (44, true), (45, true), (46, true), (41, false), (47, false), (48, true), (49, true)] (by kernel_rfl) (by kernel_rfl) hS20 ?_
              iterate 2 (refine wpMix_step rfl (fun K hK => ?_); go_simp; (try go_bits); with_reducible refine hK _ ?_; clear hK K)
              refine wpMix_pureW (.agg (c8 d).toArray) rfl rfl (fun W hW => run_load_op 30 (.tmp 12) rfl Try.underlying30 rfl ⟨Db, 0, none⟩ rfl _ (info_dg d HD.out) (row_all (hW.row 1 rfl))) ?_
              refine wpMix_loudW _ rfl rfl ?_
              go_wp2_with fail
              refine (HHAS.out _ (HND.out _ hS20)).mono ?_
              rintro e w21 ⟨rfl, hg⟩
              have hS21 := hS20.call hg
              clear hg hS20
              go_wp2_with fail
              refine wpMix_next' (fun _ => hS21) ?_
              iterate 4 (refine wpMix_step rfl (fun K hK => ?_); go_simp; (try go_bits); with_reducible refine hK _ ?_; clear hK K)
              iterate 10 (refine wpMix_skipK rfl rfl (fun K hK => ?_); go_simp; with_reducible refine hK _ ?_; clear hK K)
              have hS23 := hS21
              clear hS21
              iterate 13 (refine wpMix_step rfl (fun K hK => ?_); go_simp; (try go_bits); with_reducible refine hK _ ?_; clear hK K)
              refine wpMix_pureW (.agg (c8 d).toArray) rfl rfl (fun W hW => run_load_op 30 (.tmp 12) rfl Try.underlying30 rfl ⟨Db, 0, none⟩ rfl _ (info_dg d HD.out) (row_all (hW.row 1 rfl))) ?_
              iterate 1 (refine wpMix_step rfl (fun K hK => ?_); go_simp; (try go_bits); with_reducible refine hK _ ?_; clear hK K)
              refine wpMix_pureW (.agg (c8 d).toArray) rfl rfl (fun W hW => run_load_op 30 (.tmp 12) rfl Try.underlying30 rfl ⟨Db, 0, none⟩ rfl _ (info_dg d HD.out) (row_all (hW.row 1 rfl))) ?_
              refine wpMix_loudW _ rfl rfl ?_
              go_wp2_with fail
              refine (HREFS.out _ hS23).mono ?_
              rintro e w24 ⟨rfl, hg⟩
              have hS24 := hS23.call hg
              clear hg hS23
              go_wp2_with fail
              refine wpMix_next' (fun _ => hS24) ?_
              refine wpMix_loudW _ rfl rfl ?_
              go_wp2_with fail
              refine (HRREFS.out _ hS24).mono ?_
              rintro e w25 ⟨rfl, hg⟩
              have hS25 := hS24.call hg
              clear hg hS24
              go_wp2_with fail
              refine wpMix_next' (fun _ => hS25) ?_
              iterate 4 (refine wpMix_step rfl (fun K hK => ?_); go_simp; (try go_bits); with_reducible refine hK _ ?_; clear hK K)
              refine wpMix_pureW (.agg (c8 d).toArray) rfl rfl (fun W hW => run_load_op 30 (.tmp 12) rfl Try.underlying30 rfl ⟨Db, 0, none⟩ rfl _ (info_dg d HD.out) (row_all (hW.row 1 rfl))) ?_
              iterate 3 (refine wpMix_step rfl (fun K hK => ?_); go_simp; (try go_bits); with_reducible refine hK _ ?_; clear hK K)
              refine wpMix_pureW (.slice Ab nb cb) rfl rfl (fun W hW => run_load_cell 35 (.tmp 125) rfl Try.underlying35 rfl ⟨Rr, 1, none⟩ rfl _ (HBV.out W hW)) ?_
              refine wpMix_pureW (.agg (c8 d).toArray) rfl rfl (fun W hW => run_load_op 30 (.tmp 12) rfl Try.underlying30 rfl ⟨Db, 0, none⟩ rfl _ (info_dg d HD.out) (row_all (hW.row 1 rfl))) ?_
              refine wpMix_loudW _ rfl rfl ?_
              go_wp2_with fail
              refine (HMARK.out _ hS25).mono ?_
              rintro e w26 ⟨rfl, hg⟩
              have hS26 := hS25.call hg
              clear hg hS25
              go_wp2_with fail
              refine wpMix_next' (fun _ => hS26) ?_
              refine wpMix_loudW _ rfl rfl ?_
              go_wp2_with fail
              refine (HIN.out _ hS26).mono ?_
              rintro e w27 ⟨rfl, hg⟩
              have hS27 := hS26.call hg
              clear hg hS26
              go_wp2_with fail
              refine wpMix_next' (fun _ => hS27) ?_
              iterate 2 (refine wpMix_step rfl (fun K hK => ?_); go_simp; (try go_bits); with_reducible refine hK _ ?_; clear hK K)
              unfold wpMix
              have hst : True := trivial
              have hS28 := hS27.tail
              clear hS27
              go_wp2_with fail
              go_loopw [133] (fun i wr => i = .int .i64 0 ∧ Own w wr (rowE Db 30 (c8 d) :: LST)) (fun i _ => 0)
              case atStart => exact ⟨rfl, hS28⟩
              case round =>
                clear hS28 hst
                obtain ⟨rfl, hS⟩ := hrel
                have hS29 := hS.tail
                clear hS
                go_wp2
                go_roundw
                case rel => exact ⟨k + 1, by go_num, by omega, hS29⟩
                case measure => simp [intOf]; omega
          · obtain rfl : k = 18 := by omega
            have q1 : ¬ (((18 : Nat) : Int) < 18) := by omega
            rw [HLST.out] at hS
            clear HLST hlt hk
            go_wp2_with fail
            go_loopw [144] (fun i wr => ∃ (k : Nat), i = .int .i64 (k : Int) ∧ k ≤ rkv.length ∧ Own w wr (rowsE w.heap.size 30 (.slice A8 rkv.length c8') R :: plL w G M K7 B Rr v (.slice An rkv.length cn) (.slice Ag gray.length cg) (.slice Ab nb cb) blk kv rkv gray L)) (fun i _ => rkv.length - (intOf i).toNat)
            case atStart => exact ⟨0, rfl, by omega, hS⟩
            case round =>
              clear hS
              obtain ⟨k, rfl, hk, hS⟩ := hrel
              by_cases hkr : k < rkv.length
              · have p1 : (k : Int) < (rkv.length : Int) := by omega
                have hlt : k < R.length := by rw [HRL.out]; exact hkr
                have hrk : rkv.length ≤ 60 := by have h1 := All2.len HP.out.er; have h2 := HP.out.rlen; omega
                have p2 : (k : Int) < 60 := by omega
                obtain ⟨-, hrows, -⟩ := own_slice (hS.rows 0 rfl)
                obtain ⟨b8, off8, rfl, -⟩ := hrows.at_ k hlt
                have hxl := hrows.all.at_ k hlt
                obtain ⟨A', c', hv, hndw, -⟩ := ownsN_open (hS.nodes 9 rfl)
                injection hv with e1 e2 e3
                subst e1; subst e3
                obtain ⟨bn, offn, rfl, -, -⟩ := hndw.sum k hkr
                have hxe : (rkv.getD k nd0).1 = R.getD k [] := by
                  rw [(All2.get HP.out.er nd0 n0 k hkr).1, HRK.out]
                  have : k < lr.length := by rw [← All2.len HP.out.er]; exact hkr
                  simp [keysR, this]
                obtain ⟨x, hx⟩ : ∃ x, x = R.getD k [] := ⟨_, rfl⟩
                rw [← hx] at hxl hxe
                have HXL := Lib.hid hxl
                have HXE := Lib.hid hxe
                have HX := Lib.hid hx
                have HKR := Lib.hid hkr
                have HKL := Lib.hid hlt
                have heq : ∀ W : World, (Op.equalIn 10000 30 (.agg (c8 x).toArray) (.agg (c8 x).toArray)).run Try.prog W = .ok true W := fun W => by rw [eq_dg W x x HXL.out HXL.out, decide_eq_true rfl]
                have HND := Lib.hid (show ∀ W, Own w W (rowsE w.heap.size 30 (.slice (some ⟨b8, off8, none⟩) rkv.length c8') R :: plL w G M K7 B Rr v (.slice (some ⟨bn, offn, none⟩) rkv.length cn) (.slice Ag gray.length cg) (.slice Ab nb cb) blk kv rkv gray L) → NdIn W (some ⟨bn, offn, none⟩) cn rkv from fun W hW => by
                  obtain ⟨A', c', hv, h2, -⟩ := ownsN_open (hW.nodes 9 rfl)
                  injection hv with e1 e2 e3
                  subst e1; subst e3
                  exact h2)
                clear hrows hxl hndw hxe hx hkr hrk hlt
                go_wp2_with fail
                have hS1 := hS.drew
                clear hS
                refine wp_region_mixC (fun W => Own w W _) (fun _ => true) [(0, true), (1, true), (2, true), (3, true), (4, true), (5, true), (6, true), (7, true), (8, true), (9, true)] (by kernel_rfl) (by kernel_rfl) hS1 ?_
                iterate 3 (refine wpMix_step rfl (fun K hK => ?_); go_simp; (try go_bits); with_reducible refine hK _ ?_; clear hK K)
                refine wpMix_pureW (.agg (c8 x).toArray) rfl rfl (fun W hW => run_load_op 30 (.tmp 149) rfl Try.underlying30 rfl ⟨b8, off8 + k * 32, none⟩ rfl _ (info_dg x HXL.out) (by rw [HX.out]; exact own_cells (hW.rows 0 rfl) k HKL.out)) ?_
                iterate 4 (refine wpMix_step rfl (fun K hK => ?_); go_simp; (try go_bits); with_reducible refine hK _ ?_; clear hK K)
                refine wpMix_pureW (.agg (c8 x).toArray) rfl rfl (fun W hW => run_load_op 29 (.tmp 154) rfl Try.underlying29 rfl ⟨bn, offn + k * 33, none⟩ rfl _ (info_a32 x HXL.out) (by rw [← HXE.out]; exact (HND.out W hW).sum_at k HKR.out)) ?_
                iterate 1 (refine wpMix_step rfl (fun K hK => ?_); go_simp; (try go_bits); with_reducible refine hK _ ?_; clear hK K)
                unfold wpMix
                go_wp2_with fail
                go_roundw
                case rel => exact ⟨k + 1, by go_num, by have := HKR.out; omega, hS1⟩
                case measure => have := HKR.out; simp [intOf]; omega
              · obtain rfl : k = rkv.length := by omega
                have p1 : ¬ ((rkv.length : Int) < (rkv.length : Int)) := by omega
                have HPST : Hid (Pst w wr G M K7 Rr (.slice An rkv.length cn) (j + 1)) := Lib.hid ⟨B, v, _, _, blk, kv, rkv, gray, ns, lr, L, HP.out.un, HP.out.ag, HP.out.low, HP.out.rlow, HP.out.len, HP.out.rlen, HP.out.gl, HP.out.bl, HP.out.ed, HP.out.er, hS.tail⟩
                clear hS hkr hk
                go_wp2_with fail
                go_roundw
                case rel => exact ⟨j + 1, K7, rfl, by go_num, by omega, by omega, HPST.out⟩
                case measure => simp [intOf]; omega
      · have q2 : decide (60 ≤ (j : Int)) = true := decide_eq_true (by omega)
        have q3 : (60 : Int) ≤ (j : Int) := by omega
        have hG := hS6.grown
        clear hS6 HP HC HOB HOC HOC2 HON HWN
        go_wp2
        go_ret
        exact ⟨rfl, hG⟩
    · obtain rfl : j = n2 := by omega
      have q1 : ¬ ((j : Int) < (j : Int)) := by omega
      have hG := hP.own.grown
      clear hP
      go_wp2
      go_ret
      exact ⟨rfl, hG⟩
end Go.Proofs.Ytnlnkojcbjaeeaa
