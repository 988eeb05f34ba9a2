/- The contracts of Unhex, the program's and the document's. -/
import Derived.Test.YtgagpbbmlpbjpaaState
import Derived.WalkSpells
namespace Go.Proofs.Ytgagpbbmlpbjpaa
open Go.RowKit

/-- what a sign stands for; 16: nothing -/
def digN (c : Nat) : Nat := if 48 ≤ c ∧ c ≤ 57 then c - 48 else if 97 ≤ c ∧ c ≤ 102 then c - 97 + 10 else 16
theorem digN_le (c : Nat) : digN c ≤ 16 := by unfold digN; split <;> (try split) <;> omega
def dig8 (c : UInt8) : UInt8 := UInt8.ofNat (digN c.toNat)
theorem dig8_n (c : UInt8) : n8 (dig8 c) = (digN c.toNat : Int) := by unfold n8 dig8; rw [UInt8.toNat_ofNat', Nat.mod_eq_of_lt (by have := digN_le c.toNat; omega)]
/-- the bytes that digits are -/
def unhexL : List UInt8 → Option (List UInt8)
  | [] => some []
  | [_] => none
  | a :: b :: r => if digN a.toNat < 16 ∧ digN b.toNat < 16 then (unhexL r).map fun l => UInt8.ofNat (16 * digN a.toNat + digN b.toNat) :: l else none

set_option maxRecDepth 100000 in
theorem digit_any (c : UInt8) (w : World) : Calls Try.prog 54 #[.int .u8 (n8 c)] w fun e w' => e = .returned (.int .u8 (n8 (dig8 c))) ∧ w = w' := by
  have h1 := n8_lo c
  have h2 := n8_hi c
  obtain ⟨x, hx⟩ : ∃ x, x = n8 c := ⟨_, rfl⟩
  have hd : n8 (dig8 c) = if 48 ≤ x ∧ x ≤ 57 then x - 48 else if 97 ≤ x ∧ x ≤ 102 then x - 97 + 10 else 16 := by
    rw [dig8_n, hx]; unfold digN n8
    (repeat' split) <;> omega
  rw [← hx] at h1 h2 ⊢
  rw [hd]
  clear hx hd
  by_cases a1 : 48 ≤ x
  · by_cases a2 : x ≤ 57
    · rw [if_pos ⟨a1, a2⟩]
      go_enter Try.func54, Try.ntmps54
      go_wp2
      go_ret
      exact ⟨rfl, rfl⟩
    · rw [if_neg (by omega)]
      by_cases b1 : 97 ≤ x
      · by_cases b2 : x ≤ 102
        · rw [if_pos ⟨b1, b2⟩]
          go_enter Try.func54, Try.ntmps54
          go_wp2
          go_ret
          exact ⟨rfl, rfl⟩
        · rw [if_neg (by omega)]
          go_enter Try.func54, Try.ntmps54
          go_wp2
          go_ret
          exact ⟨rfl, rfl⟩
      · rw [if_neg (by omega)]
        go_enter Try.func54, Try.ntmps54
        go_wp2
        go_ret
        exact ⟨rfl, rfl⟩
  · rw [if_neg (by omega), if_neg (by omega)]
    go_enter Try.func54, Try.ntmps54
    go_wp2
    go_ret
    exact ⟨rfl, rfl⟩

theorem run_index_str (W : World) (l : List UInt8) (i : Nat) (h : i < l.length) :
    (Instr.index 9 (.string ⟨l.toArray⟩) (.int .i64 (i : Int))).run Try.prog W = .ok (.int .u8 (n8 (l.getD i 0))) W := by
  have h1 : (i : Int) < ((⟨l.toArray⟩ : ByteArray).size : Int) := by show (i : Int) < (l.toArray.size : Int); simp; exact h
  have h2 : i < (⟨l.toArray⟩ : ByteArray).size := by omega
  have h3 : (⟨l.toArray⟩ : ByteArray)[i]'h2 = l.getD i 0 := by show l.toArray[i]'_ = _; simp [h]
  have h4 : (⟨l.toArray⟩ : ByteArray)[i]? = some (l.getD i 0) := by rw [getElem?_pos (⟨l.toArray⟩ : ByteArray) i h2, h3]
  have h5 := h4
  simp only [List.getD_eq_getElem?_getD] at h5
  simp [go_sem, Instr.index, asIntOf, run_underlying Try.underlying9, h5, n8]
/-- two digits in one byte -/
theorem or_digits (a b : Nat) (ha : a < 16) (hb : b < 16) : bits .or .u8 ((a : Int) * 16) (b : Int) = n8 (UInt8.ofNat (16 * a + b)) := by
  have : ∀ (x y : Fin 16), bits .or .u8 ((x.val : Int) * 16) (y.val : Int) = n8 (UInt8.ofNat (16 * x.val + y.val)) := by decide +kernel
  exact this ⟨a, ha⟩ ⟨b, hb⟩
theorem unhexL_two (l : List UInt8) (a b : UInt8) (r : List UInt8) (h : l = a :: b :: r) : unhexL l = if digN a.toNat < 16 ∧ digN b.toNat < 16 then (unhexL r).map fun q => UInt8.ofNat (16 * digN a.toNat + digN b.toNat) :: q else none := by rw [h]; rfl
theorem drop_two (l : List UInt8) (k : Nat) (h : 2 * k + 1 < l.length) : l.drop (2 * k) = l.getD (2 * k) 0 :: l.getD (2 * k + 1) 0 :: l.drop (2 * (k + 1)) := by
  have h1 : 2 * k < l.length := by omega
  have e1 := List.drop_eq_getElem_cons h1
  have e2 := List.drop_eq_getElem_cons h
  rw [e1, e2, show 2 * (k + 1) = 2 * k + 1 + 1 from by omega]
  simp [List.getD_eq_getElem?_getD, List.getElem?_eq_getElem h, List.getElem?_eq_getElem h1]
theorem unhexL_odd : ∀ (l : List UInt8), l.length % 2 = 1 → unhexL l = none
  | [], h => by simp at h
  | [_], _ => rfl
  | a :: b :: r, h => by
    rw [unhexL_two _ a b r rfl, unhexL_odd r (by simp at h; omega)]
    split <;> rfl
/-- what k pairs have told -/
def UnhexAt (l : List UInt8) (k : Nat) (q : List UInt8) : Prop := q.length = k ∧ unhexL l = (unhexL (l.drop (2 * k))).map fun r => q ++ r
theorem UnhexAt.start (l : List UInt8) : UnhexAt l 0 [] := ⟨rfl, by simp⟩
theorem UnhexAt.step {l q : List UInt8} {k : Nat} (h : UnhexAt l k q) (hk : 2 * k + 1 < l.length) (h1 : digN (l.getD (2 * k) 0).toNat < 16) (h2 : digN (l.getD (2 * k + 1) 0).toNat < 16) :
    UnhexAt l (k + 1) (q ++ [UInt8.ofNat (16 * digN (l.getD (2 * k) 0).toNat + digN (l.getD (2 * k + 1) 0).toNat)]) := by
  refine ⟨by simp [h.1], ?_⟩
  rw [h.2, unhexL_two _ _ _ _ (drop_two l k hk), if_pos ⟨h1, h2⟩, Option.map_map]
  congr 1
  funext r
  simp
theorem UnhexAt.bad {l q : List UInt8} {k : Nat} (h : UnhexAt l k q) (hk : 2 * k + 1 < l.length) (h1 : ¬ (digN (l.getD (2 * k) 0).toNat < 16 ∧ digN (l.getD (2 * k + 1) 0).toNat < 16)) : unhexL l = none := by
  rw [h.2, unhexL_two _ _ _ _ (drop_two l k hk), if_neg h1]; rfl
theorem UnhexAt.end_ {l q : List UInt8} {k : Nat} (h : UnhexAt l k q) (hk : l.length = 2 * k) : unhexL l = some q := by
  rw [h.2, List.drop_of_length_le (by omega)]; simp [unhexL]

theorem set_fill (q : List UInt8) (k m : Nat) (u : UInt8) (hq : q.length = k) (h : k < m) : (q ++ List.replicate (m - k) 0).set k u = (q ++ [u]) ++ List.replicate (m - (k + 1)) 0 := by
  obtain ⟨d, hd⟩ : ∃ d, m - k = d + 1 := ⟨m - k - 1, by omega⟩
  rw [hd, show m - (k + 1) = d from by omega, List.replicate_succ, List.set_append_right _ _ (by omega), hq]
  simp
/-- What Unhex answers. -/
def UnhexPost (l : List UInt8) (w : World) (ok bad : Value) (e : Ending) (w' : World) : Prop :=
  (∃ q v', unhexL l = some q ∧ e = .returned (.tuple #[v', ok]) ∧ w'.ownsRow w.heap.size 5 1 v' q.length (c8 q) ∧ w.grownBy w' none) ∨
    (unhexL l = none ∧ e = .returned (.tuple #[.slice none 0 0, bad]) ∧ w.grownBy w' none)

set_option maxRecDepth 100000 in
set_option maxHeartbeats 2000000 in
theorem unhex_any (l : List UInt8) (w : World) (hl : l.length ≤ 140737488351232) :
    Calls Try.prog 43 #[.string ⟨l.toArray⟩] w (UnhexPost l w (.int .i64 0) (.int .i64 10)) := by
  by_cases hodd : l.length % 2 = 1
  · have hn := unhexL_odd l hodd
    have t0 : ((l.length : Int) % 2 != 0) = true := by rw [bne_iff_ne]; omega
    clear hodd
    go_enter Try.func43, Try.ntmps43
    go_wp2
    go_ret2
    exact .inr ⟨hn, rfl, grownBy_refl _ _⟩
  · obtain ⟨m, hm⟩ : ∃ m, l.length = 2 * m := ⟨l.length / 2, by omega⟩
    have t0 : ((l.length : Int) % 2 != 0) = false := by simp; omega
    have HM := Lib.hid hm
    have t1 : (l.length : Int) / 2 = (m : Int) := by omega
    clear hodd hm
    go_enter Try.func43, Try.ntmps43
    go_wp2_with (refine wp_make rfl 22 (.tmp 14) (.tmp 14) rfl 5 (.int .u8 0) 1 Try.underlying22 (by kernel_rfl) rfl m m rfl rfl (by omega) (by have := HM.out; omega) (by have := HM.out; omega) ?_)
    intro w1 hr hg hz
    clear hz
    have hS := (Own.start w).new hr hg
    clear hr hg t1
    have hm1 : m ≤ 140737488351232 := by have := HM.out; omega
    go_wp2
    go_loopw [18] (fun iv wr => ∃ (k : Nat) (q : List UInt8), k ≤ m ∧ iv = .int .i64 k ∧ UnhexAt l k q ∧ Own w wr [rowE w.heap.size 5 (c8 (q ++ List.replicate (m - k) 0))]) (fun iv _ => m - (intOf iv).toNat)
    case atStart => exact ⟨0, [], by omega, rfl, UnhexAt.start l, by simpa [c8, v8, n8] using hS⟩
    case round =>
      clear hS
      obtain ⟨k, q, hk, rfl, hq, hS⟩ := hrel
      have HQ := Lib.hid hq
      clear hq
      by_cases hlt : k < m
      · obtain ⟨a, ha⟩ : ∃ a, a = l.getD (2 * k) 0 := ⟨_, rfl⟩
        obtain ⟨b, hb⟩ : ∃ b, b = l.getD (2 * k + 1) 0 := ⟨_, rfl⟩
        have hlk : 2 * k + 1 < l.length := by have := HM.out; omega
        have hia := fun W => run_index_str W l (2 * k) (by omega)
        have hib := fun W => run_index_str W l (2 * k + 1) hlk
        rw [← ha] at hia
        rw [← hb] at hib
        rw [show ((2 * k : Nat) : Int) = 2 * (k : Int) by omega] at hia
        rw [show ((2 * k + 1 : Nat) : Int) = 2 * (k : Int) + 1 by omega] at hib
        have hstep := HQ.out.step hlk
        have hbad := HQ.out.bad hlk
        rw [← ha, ← hb] at hstep hbad
        have dA := fun W => digit_any a W
        have dB := fun W => digit_any b W
        rw [dig8_n] at dA dB
        obtain ⟨x, hx⟩ : ∃ x, x = digN a.toNat := ⟨_, rfl⟩
        obtain ⟨y, hy⟩ : ∃ y, y = digN b.toNat := ⟨_, rfl⟩
        have hx16 : x ≤ 16 := by rw [hx]; exact digN_le _
        have hy16 : y ≤ 16 := by rw [hy]; exact digN_le _
        rw [← hx] at dA hstep hbad
        rw [← hy] at dB hstep hbad
        have DA := Lib.hid dA
        have DB := Lib.hid dB
        have HST := Lib.hid hstep
        have HBD := Lib.hid hbad
        have q1 : (k : Int) < m := by omega
        clear ha hb hx hy dA dB hstep hbad hlk
        go_wp2_with fail
        have hS1 := hS.drew
        clear hS
        refine wp_region_mixC (fun W => Own w W _) (fun _ => true) [(0, true), (1, true), (2, true), (3, true), (5, true), (6, true), (7, true), (8, true), (9, true), (4, false), (10, false), (11, false), (12, false)] (by kernel_rfl) (by kernel_rfl) hS1 ?_
        iterate 9 (refine wpMix_step rfl (fun K hK => ?_); go_simp; (try go_bits); with_reducible refine hK _ ?_; clear hK K)
        refine wpMix_loud _ rfl rfl ?_
        go_wp2_with fail
        refine (DA.out _).mono ?_
        rintro e w' ⟨rfl, rfl⟩
        go_wp2_with fail
        refine wpMix_next' (fun _ => hS1) ?_
        refine wpMix_loud _ rfl rfl ?_
        go_wp2_with fail
        refine (DB.out _).mono ?_
        rintro e w' ⟨rfl, rfl⟩
        go_wp2_with fail
        refine wpMix_next' (fun _ => hS1) ?_
        refine wpMix_loudW _ rfl rfl ?_
        go_wp2_with fail
        refine wpMix_next' (fun _ => hS1) ?_
        refine wpMix_loudW _ rfl rfl ?_
        go_wp2_with fail
        refine wpMix_next' (fun _ => hS1) ?_
        unfold wpMix
        clear hia hib DA DB
        by_cases hxy : x < 16 ∧ y < 16
        · obtain ⟨hx, hy⟩ := hxy
          have hq2 := Lib.hid (HST.out hx hy)
          have hor := or_digits x y hx hy
          have t2 : decide ((15 : Int) < (x : Int)) = false := by simp; omega
          have t3 : decide ((15 : Int) < (y : Int)) = false := by simp; omega
          have hql := HQ.out.1
          have c0 := ((hS1.row 0 rfl).cell k).trans (c8_get _ k (by simp; omega))
          have f0 := (hS1.row 0 rfl).frozen k
          have hset := Lib.hid (set_fill q k m (UInt8.ofNat (16 * x + y)) hql hlt)
          obtain ⟨u, hu⟩ : ∃ u, u = UInt8.ofNat (16 * x + y) := ⟨_, rfl⟩
          rw [← hu] at hor hset hq2
          clear HST HBD hql hu
          go_wp2
          go_roundw
          case rel =>
            refine ⟨k + 1, q ++ [u], by omega, by go_num, hq2.out, ?_⟩
            have h1 := hS1.set 0 rfl k (.int .u8 (n8 u))
            rw [c8_set, hset.out] at h1
            exact h1
          case measure => simp [intOf]; omega
        · have hn := HBD.out hxy
          clear HST HBD
          by_cases hx : x < 16
          · have t2 : decide ((15 : Int) < (x : Int)) = false := by simp; omega
            have t3 : decide ((15 : Int) < (y : Int)) = true := by simp; omega
            go_wp2
            go_ret2
            exact .inr ⟨hn, rfl, hS1.grown⟩
          · have t2 : decide ((15 : Int) < (x : Int)) = true := by simp; omega
            go_wp2
            go_ret2
            exact .inr ⟨hn, rfl, hS1.grown⟩
      · have hke : k = m := by omega
        have hql := HQ.out.1
        have hfin := HQ.out.end_ (by rw [HM.out, hke])
        rw [hke, Nat.sub_self] at hS
        have q1 : (m : Int) ≤ k := by omega
        have HKE := Lib.hid hke
        clear hke hlt hk
        go_wp2
        go_ret2
        refine .inl ⟨q, _, hfin, rfl, ?_, hS.grown⟩
        have h1 := own_of_row (xs := c8 q) (rest := []) (by simpa using hS.row 0 rfl) w.heap.size (Nat.le_refl _) (by unfold maxLen; simp; have := HKE.out; omega)
        have h2 : q.length = m := by rw [hql, HKE.out]
        simp only [List.append_nil, c8_length] at h1
        rw [h2] at h1 ⊢
        exact h1

/-! ### the document's -/
theorem digit_case (c : UInt8) : (48 ≤ n8 c ∧ n8 c ≤ 57 ∧ (digN c.toNat : Int) = n8 c - 48) ∨ (57 < n8 c ∧ 97 ≤ n8 c ∧ n8 c ≤ 102 ∧ (digN c.toNat : Int) = n8 c - 97 + 10) ∨ (¬ (48 ≤ n8 c ∧ n8 c ≤ 57) ∧ ¬ (97 ≤ n8 c ∧ n8 c ≤ 102) ∧ digN c.toNat = 16) := by
  unfold digN n8
  (repeat' split) <;> omega
set_option maxRecDepth 100000 in
set_option maxHeartbeats 4000000 in
theorem runhex_any (l : List UInt8) (w : World) (hl : l.length ≤ 140737488351232) :
    Calls Try.prog 44 #[.string ⟨l.toArray⟩] w (UnhexPost l w (.bool true) (.bool false)) := by
  go_enter Try.func44, Try.ntmps44
  go_wp2
  go_loopw [4, 5] (fun sv iv wr => ∃ (k : Nat) (q : List UInt8), 2 * k ≤ l.length ∧ iv = .int .i64 (2 * (k : Int)) ∧ UnhexAt l k q ∧ Own w wr [ownE w.heap.size 5 sv k (c8 q)]) (fun _ iv _ => l.length + 1 - (intOf iv).toNat)
  case atStart => exact ⟨0, [], by omega, rfl, UnhexAt.start l, by simpa [c8] using (Own.start w).nilRow w.heap.size 5⟩
  case round =>
    obtain ⟨k, q, hk, rfl, hq, hS⟩ := hrel
    have HQ := Lib.hid hq
    clear hq
    have hbo := own_block (hS.own 0 rfl)
    by_cases hlt : 2 * k + 1 < l.length
    · obtain ⟨a, ha⟩ : ∃ a, a = l.getD (2 * k) 0 := ⟨_, rfl⟩
      obtain ⟨b, hb⟩ : ∃ b, b = l.getD (2 * k + 1) 0 := ⟨_, rfl⟩
      have hia := fun W => run_index_str W l (2 * k) (by omega)
      have hib := fun W => run_index_str W l (2 * k + 1) hlt
      rw [← ha] at hia
      rw [← hb] at hib
      rw [show ((2 * k : Nat) : Int) = 2 * (k : Int) by omega] at hia
      rw [show ((2 * k + 1 : Nat) : Int) = 2 * (k : Int) + 1 by omega] at hib
      have hstep := HQ.out.step hlt
      have hbad := HQ.out.bad hlt
      rw [← ha, ← hb] at hstep hbad
      have ca := digit_case a
      have cb := digit_case b
      obtain ⟨x, hx⟩ : ∃ x, x = digN a.toNat := ⟨_, rfl⟩
      obtain ⟨y, hy⟩ : ∃ y, y = digN b.toNat := ⟨_, rfl⟩
      rw [← hx] at hstep hbad ca
      rw [← hy] at hstep hbad cb
      obtain ⟨va, hva⟩ : ∃ va, va = n8 a := ⟨_, rfl⟩
      obtain ⟨vb, hvb⟩ : ∃ vb, vb = n8 b := ⟨_, rfl⟩
      have a0 := n8_lo a
      have a1 := n8_hi a
      have b0 := n8_lo b
      have b1 := n8_hi b
      rw [← hva] at hia ca a0 a1
      rw [← hvb] at hib cb b0 b1
      have HST := Lib.hid hstep
      have HBD := Lib.hid hbad
      have CA := Lib.hid ca
      have CB := Lib.hid cb
      have q1 : 2 * (k : Int) + 1 < l.length := by omega
      clear ha hb hx hy hva hvb hstep hbad ca cb
      go_wp2
      go_loop [6, 7] (fun vv jv => (jv = .int .i64 0 ∧ vv = .int .i64 0) ∨ (jv = .int .i64 1 ∧ vv = .int .i64 (x : Int) ∧ x < 16) ∨ (jv = .int .i64 2 ∧ vv = .int .i64 (16 * (x : Int) + y) ∧ x < 16 ∧ y < 16)) (fun _ jv => (2 - intOf jv).toNat)
      case atStart => exact .inl ⟨rfl, rfl⟩
      case round =>
        rcases hrel with ⟨rfl, rfl⟩ | ⟨rfl, rfl, hx16⟩ | ⟨rfl, rfl, hx16, hy16⟩
        · have hi0 := hia
          clear hib
          rcases CA.out with ⟨e1, e2, e3⟩ | ⟨e1, e2, e3, e4⟩ | ⟨e1, e2, e3⟩
          · have hv := e3
            have hlt16 : x < 16 := by omega
            have HV := Lib.hid hv
            clear hv e3
            go_wp2
            go_round
            case rel => exact .inr (.inl ⟨rfl, (by have h9 := HV.out; refine congrArg (Value.int IntKind.i64) ?_; omega), hlt16⟩)
            case measure => simp [intOf]
          · have hv := e4
            have hlt16 : x < 16 := by omega
            have HV := Lib.hid hv
            clear hv e4
            go_wp2
            go_round
            case rel => exact .inr (.inl ⟨rfl, (by have h9 := HV.out; refine congrArg (Value.int IntKind.i64) ?_; omega), hlt16⟩)
            case measure => simp [intOf]
          · have hn := HBD.out (by omega)
            clear HST HBD HQ
            rcases (show va < 48 ∨ (57 < va ∧ va < 97) ∨ 102 < va by omega) with h | ⟨h, h'⟩ | h
            · go_wp2
              go_ret2
              exact .inr ⟨hn, rfl, hS.grown⟩
            · go_wp2
              go_ret2
              exact .inr ⟨hn, rfl, hS.grown⟩
            · go_wp2
              go_ret2
              exact .inr ⟨hn, rfl, hS.grown⟩
        · clear hia
          rcases CB.out with ⟨e1, e2, e3⟩ | ⟨e1, e2, e3, e4⟩ | ⟨e1, e2, e3⟩
          · have hv := e3
            have hlt16 : y < 16 := by omega
            have HV := Lib.hid hv
            clear hv e3
            go_wp2
            go_round
            case rel => exact .inr (.inr ⟨rfl, (by have h9 := HV.out; refine congrArg (Value.int IntKind.i64) ?_; omega), hx16, hlt16⟩)
            case measure => simp [intOf]
          · have hv := e4
            have hlt16 : y < 16 := by omega
            have HV := Lib.hid hv
            clear hv e4
            go_wp2
            go_round
            case rel => exact .inr (.inr ⟨rfl, (by have h9 := HV.out; refine congrArg (Value.int IntKind.i64) ?_; omega), hx16, hlt16⟩)
            case measure => simp [intOf]
          · have hn := HBD.out (by omega)
            clear HST HBD HQ
            rcases (show vb < 48 ∨ (57 < vb ∧ vb < 97) ∨ 102 < vb by omega) with h | ⟨h, h'⟩ | h
            · go_wp2
              go_ret2
              exact .inr ⟨hn, rfl, hS.grown⟩
            · go_wp2
              go_ret2
              exact .inr ⟨hn, rfl, hS.grown⟩
            · go_wp2
              go_ret2
              exact .inr ⟨hn, rfl, hS.grown⟩
        · have hst := Lib.hid (HST.out hx16 hy16)
          have hu : 16 * (x : Int) + y = n8 (UInt8.ofNat (16 * x + y)) := by unfold n8; rw [UInt8.toNat_ofNat']; omega
          obtain ⟨u, hu2⟩ : ∃ u, u = UInt8.ofNat (16 * x + y) := ⟨_, rfl⟩
          rw [← hu2] at hu hst
          have HU := Lib.hid hu
          clear hu hu2 HST HBD HQ hia hib CA CB
          go_wp2_with (refine wp_append1 rfl (.tmp 50) (.tmp 53) 22 rfl w.heap.size 5 (.int .u8 0) 1 Try.underlying22 info_u8 rfl _ k (c8 q) rfl ((hS.own 0 rfl).alloc _) _ 1 1 [.int .u8 (16 * (x : Int) + y)] rfl (.inr ⟨_, rfl, cell_one_new _ _ _⟩) rfl (by simp [Value.oneCell']) (by unfold maxLen; omega) (by omega) (by simp; have := hS.size; omega) ?_)
          intro v' w1 ho1 hg1 hv1
          rw [HU.out, c8_snoc] at ho1
          have hS1 := (hS.call (World.grownBy_alloc _ _ none)).append 0 rfl ho1 hg1 (by simpa using hv1)
          clear hS ho1 hg1 hv1 hbo
          go_wp2
          go_roundw
          case rel => exact ⟨k + 1, q ++ [u], by omega, by go_num, hst.out, hS1⟩
          case measure => simp [intOf]; omega
    · have q1 : (l.length : Int) ≤ 2 * (k : Int) + 1 := by omega
      by_cases hodd : l.length % 2 = 1
      · have t0 : ((l.length : Int) % 2 == 1) = true := by rw [beq_iff_eq]; omega
        have hn := unhexL_odd l hodd
        clear hodd hlt
        go_wp2
        go_ret2
        exact .inr ⟨hn, rfl, hS.grown⟩
      · have t0 : ((l.length : Int) % 2 == 1) = false := by rw [beq_eq_false_iff_ne]; omega
        have hfin := HQ.out.end_ (by omega)
        have hql := HQ.out.1
        have HQL := Lib.hid hql
        clear hodd hlt hql
        go_wp2
        go_ret2
        refine .inl ⟨q, _, hfin, rfl, ?_, hS.grown⟩
        rw [HQL.out]
        exact hS.own 0 rfl
end Go.Proofs.Ytgagpbbmlpbjpaa
