/- The library's sort laid at this program (the kit's laying tool's text), and slices.SortFunc at a slice of sums of the call's own. -/
import Derived.Shelf.SlSortCmp.NoneTotal
import Derived.Sort.OwnSorted
import Derived.Test.YtnlnkojcbjaeeaaSeq18
namespace Go.Proofs.Ytnlnkojcbjaeeaa
set_option linter.unusedVariables false
set_option linter.unusedSimpArgs false
set_option linter.unusedSectionVars false
open Go.Shelf Go.RowKit Go.Sort
set_option linter.unusedVariables false
def sortD_ren : Go.Shelf.Ren := ⟨fun | 6 => 47 | 15 => 52 | 14 => 51 | 28 => 61 | 29 => 62 | 20 => 53 | 21 => 54 | 22 => 55 | 23 => 56 | 24 => 57 | 25 => 58 | 26 => 59 | 27 => 60 | 46 => 63 | 47 => 64 | 48 => 65 | 49 => 66 | 50 => 67 | 57 => 68 | n => n, fun | 22 => 32 | 24 => 30 | 25 => 92 | 3 => 3 | 39 => 100 | 0 => 0 | 53 => 110 | 55 => 112 | 4 => 4 | 46 => 103 | 45 => 102 | 50 => 107 | 5 => 5 | 9 => 9 | 66 => 113 | 70 => 117 | 76 => 119 | 77 => 120 | n => n, fun | n => n⟩
theorem sortD : Go.Proofs.SlLaysF0.n6 Try.prog sortD_ren := {
  mixed := by kernel_rfl
  f6 := ⟨Try.f47.name, by decide, Try.func47.trans (congrArg some (by kernel_rfl))⟩
  f14 := ⟨Try.f51.name, by decide, Try.func51.trans (congrArg some (by kernel_rfl))⟩
  f15 := Try.func52.trans (congrArg some (by kernel_rfl))
  f20 := ⟨Try.f53.name, by decide, Try.func53.trans (congrArg some (by kernel_rfl))⟩
  f21 := ⟨Try.f54.name, by decide, Try.func54.trans (congrArg some (by kernel_rfl))⟩
  f22 := ⟨Try.f55.name, by decide, Try.func55.trans (congrArg some (by kernel_rfl))⟩
  f23 := ⟨Try.f56.name, by decide, Try.func56.trans (congrArg some (by kernel_rfl))⟩
  f24 := ⟨Try.f57.name, by decide, Try.func57.trans (congrArg some (by kernel_rfl))⟩
  f25 := ⟨Try.f58.name, by decide, Try.func58.trans (congrArg some (by kernel_rfl))⟩
  f26 := ⟨Try.f59.name, by decide, Try.func59.trans (congrArg some (by kernel_rfl))⟩
  f27 := ⟨Try.f60.name, by decide, Try.func60.trans (congrArg some (by kernel_rfl))⟩
  f28 := Try.func61.trans (congrArg some (by kernel_rfl))
  f29 := Try.func62.trans (congrArg some (by kernel_rfl))
  f46 := ⟨Try.f63.name, by decide, Try.func63.trans (congrArg some (by kernel_rfl))⟩
  f47 := Try.func64.trans (congrArg some (by kernel_rfl))
  f48 := Try.func65.trans (congrArg some (by kernel_rfl))
  f49 := ⟨Try.f66.name, by decide, Try.func66.trans (congrArg some (by kernel_rfl))⟩
  f50 := ⟨Try.f67.name, by decide, Try.func67.trans (congrArg some (by kernel_rfl))⟩
  f57 := ⟨Try.f68.name, by decide, Try.func68.trans (congrArg some (by kernel_rfl))⟩
  t0 := Try.underlying0
  a0 := Try.isAgg0
  z0 := Try.sizeOf0
  v0 := Try.zeroValue0
  t3 := Try.underlying3
  a3 := Try.isAgg3
  z3 := Try.sizeOf3
  v3 := Try.zeroValue3
  t4 := Try.underlying4
  a4 := Try.isAgg4
  z4 := Try.sizeOf4
  v4 := Try.zeroValue4
  t5 := Try.underlying5
  a5 := Try.isAgg5
  z5 := Try.sizeOf5
  v5 := Try.zeroValue5
  t9 := Try.underlying9
  a9 := Try.isAgg9
  z9 := Try.sizeOf9
  v9 := Try.zeroValue9
  t22 := Try.underlying32
  a22 := Try.isAgg32
  z22 := Try.sizeOf32
  v22 := Try.zeroValue32
  t25 := Try.underlying92
  a25 := Try.isAgg92
  z25 := Try.sizeOf92
  v25 := Try.zeroValue92
  t39 := Try.underlying100
  a39 := Try.isAgg100
  z39 := Try.sizeOf100
  v39 := Try.zeroValue100
  t45 := Try.underlying102
  a45 := Try.isAgg102
  z45 := Try.sizeOf102
  v45 := Try.zeroValue102
  t46 := Try.underlying103
  a46 := Try.isAgg103
  z46 := Try.sizeOf103
  v46 := Try.zeroValue103
  t50 := Try.underlying107
  a50 := Try.isAgg107
  z50 := Try.sizeOf107
  v50 := Try.zeroValue107
  t53 := Try.underlying110
  a53 := Try.isAgg110
  z53 := Try.sizeOf110
  v53 := Try.zeroValue110
  t55 := Try.underlying112
  a55 := Try.isAgg112
  z55 := Try.sizeOf112
  v55 := Try.zeroValue112
  t66 := Try.underlying113
  a66 := Try.isAgg113
  z66 := Try.sizeOf113
  v66 := Try.zeroValue113
  t70 := Try.underlying117
  a70 := Try.isAgg117
  z70 := Try.sizeOf117
  v70 := Try.zeroValue117
  t76 := Try.underlying119
  a76 := Try.isAgg119
  z76 := Try.sizeOf119
  v76 := Try.zeroValue119
  t77 := Try.underlying120
  a77 := Try.isAgg120
  z77 := Try.sizeOf120
  v77 := Try.zeroValue120 }

def sortD32 (ss : List D32) : List D32 := ss.mergeSort fun x y => !(ltOf cfD y x)
theorem flatK_list (ss : List D32) : (flatK encD 32 ss.toArray).toList = c8 (ss.map (·.1)).flatten := by
  have hall : L32 (ss.map (·.1)) := by
    intro x hx
    obtain ⟨y, _, rfl⟩ := List.mem_map.1 hx
    exact y.2
  have hfl := flatten_len hall
  rw [List.length_map] at hfl
  apply List.ext_getElem?
  intro t
  by_cases ht : t < ss.length * 32
  · have hi : t / 32 < ss.length := by omega
    have h1 := get_flatK encD 32 ss.toArray t (by simpa using ht)
    have h2 : (flatK encD 32 ss.toArray).toList[t]? = some ((flatK encD 32 ss.toArray)[t]!) := by
      rw [Array.getElem?_toList, Array.getElem?_eq_getElem (by simpa using ht), getElem!_pos _ t (by simpa using ht)]
    rw [h2, h1]
    have h3 : (ss.toArray)[t / 32]! = ss[t / 32] := by rw [getElem!_pos _ _ (by simpa using hi)]; simp
    rw [h3]
    have h4 := flatten_at hall (t / 32) (by simpa using hi)
    have h5 : (ss.map (·.1)).getD (t / 32) [] = (ss[t / 32]).1 := by simp [hi]
    rw [h5] at h4
    have h6 : (c8 (ss.map (·.1)).flatten)[t]? = (c8 (((ss.map (·.1)).flatten.drop (t / 32 * 32)).take 32))[t % 32]? := by
      simp only [c8, List.map_take, List.map_drop, List.getElem?_take, List.getElem?_drop]
      rw [if_pos (by omega), show t / 32 * 32 + t % 32 = t by omega]
    rw [h6, h4]
    have h7 : t % 32 < (encD ss[t / 32]).length := by rw [encD_len]; omega
    have h8 : (encD ss[t / 32])[t % 32]! = (encD ss[t / 32])[t % 32] := getElem!_pos (encD ss[t / 32]) (t % 32) h7
    rw [h8, ← List.getElem?_eq_getElem h7]
    rfl
  · rw [List.getElem?_eq_none (by simp; omega), List.getElem?_eq_none (by rw [c8_length, hfl]; omega)]
theorem take_put (cur F : Array Value) (h : F.size ≤ cur.size) : (putCells id 0 F cur).toList.take F.size = F.toList := by
  apply List.ext_getElem?
  intro k
  by_cases hk : k < F.size
  · rw [List.getElem?_take_of_lt hk, Array.getElem?_toList, Array.getElem?_toList]
    unfold putCells
    rw [Array.getElem?_mapIdx, Array.getElem?_eq_getElem (by omega : k < cur.size), Array.getElem?_eq_getElem hk]
    simp [hk]
  · rw [List.getElem?_eq_none (by rw [List.length_take, Array.length_toList]; omega), List.getElem?_eq_none (by simpa using hk)]
theorem isAgg30 (w : World) : (isAgg 30).run Try.prog w = .ok true w := run_isAgg w Try.underlying30 rfl
theorem size30 (w : World) : (Go.sizeOf 30).run Try.prog w = .ok 32 w := by kernel_rfl
theorem enters43 : ∀ args w, (callFunc 43 args).run Try.prog w = .ok (.enter 43 args) w := enters_of Try.func43 (by kernel_rfl) rfl
set_option maxHeartbeats 1000000 in
theorem sortFunc_any (base : Nat) (v : Value) (ss : List D32) (w : World) (ho : OwnsR w base 30 v (ss.map (·.1))) (hl : ss.length ≤ 4096) :
    Calls Try.prog 47 #[v, .func (.func 43) #[] #[]] w fun e w' => e = .returned (.tuple #[]) ∧ OwnsR w' base 30 v ((sortD32 ss).map (·.1)) ∧ w.grownBy w' v.ownBlock := by
  obtain ⟨hall, hln, hrow⟩ := ho
  rw [List.length_map] at hln hrow
  rcases hrow with ⟨rfl, hz⟩ | ⟨g, cap, cur, rfl, hbase, hgb, r1, r2, r3, r4⟩
  · have hss : ss = [] := List.eq_nil_of_length_eq_zero hz
    subst hss
    have h := AnyF.slices_SortFunc_none sortD none 0 (.func (.func 43) #[] #[]) w
    change Calls Try.prog 47 _ _ _ at h
    refine h.mono ?_
    rintro e w' ⟨rfl, rfl⟩
    rw [show sortD32 [] = [] from by simp [sortD32]]
    exact ⟨rfl, ⟨L32.nil, World.ownsRow_nil _ _ _ 32⟩, grownBy_refl _ _⟩
  · have hgl : g < w.heap.size := (Array.getElem?_eq_some_iff.1 hgb).1
    have hfl := flatK_list ss
    have hsz : (flatK encD 32 ss.toArray).size = ss.length * 32 := by simp
    have hH : HoldsK encD 32 w g 0 ss.toArray := by
      intro j hj
      rw [hsz] at hj
      refine ⟨?_, by simp [World.frozen?, hgb]⟩
      have h1 : (cur.toList.take (ss.length * 32))[j]? = (flatK encD 32 ss.toArray).toList[j]? := by rw [r4, hfl]
      have h2 : (flatK encD 32 ss.toArray)[j]? = some ((flatK encD 32 ss.toArray)[j]'(by rw [hsz]; exact hj)) := Array.getElem?_eq_getElem _
      rw [List.getElem?_take_of_lt hj, Array.getElem?_toList, Array.getElem?_toList, h2] at h1
      simp only [World.cell?, hgb, Nat.zero_add, Option.isSome_none, Bool.false_eq_true, if_false]
      rw [h1, getElem!_pos _ j (by rw [hsz]; exact hj)]
      rfl
    have h := AnyQ.slices_SortFunc_total sortD 32 isAgg30 size30 encD encD_len encD_one cfD swoD 43 #[] g 0 cap ss.toArray w enters43 (cmpLaysD g 0 _ w) hH hgl (by simp; omega) totD
    change Calls Try.prog 47 _ _ _ at h
    rw [show ss.toArray.size = ss.length by simp] at h
    refine h.mono ?_
    rintro e w' ⟨rfl, n, os, rfl⟩
    have hl2 : (sortD32 ss).length = ss.length := List.length_mergeSort _
    have hcur : ss.length * 32 ≤ cur.size := by rw [r3]; exact Nat.mul_le_mul_right 32 r1
    have hF : (flatK encD 32 (sortD32 ss).toArray).size = ss.length * 32 := by simp [hl2]
    refine ⟨rfl, ⟨?_, ?_⟩, ?_⟩
    · intro x hx
      obtain ⟨y, _, rfl⟩ := List.mem_map.1 hx
      exact y.2
    · have hlen : ((sortD32 ss).map (·.1)).length = ss.length := by rw [List.length_map, hl2]
      rw [hlen]
      refine ⟨by rw [← flatK_list, Array.length_toList, hF], .inr ⟨g, cap, putCells id 0 (flatK encD 32 (sortD32 ss).toArray) cur, rfl, hbase, ?_, r1, r2, by simp [putCells, r3], ?_⟩⟩
      · unfold sortWorldK putRowK
        rw [heap_grow_old _ _ (by simpa using hgl)]
        simp [putRow, mapBlock, Sort.ahead, Array.getElem?_modify, hgb, onCells, sortD32]
      · rw [← hF, take_put _ _ (by rw [hF]; exact hcur), flatK_list]
    · unfold sortWorldK putRowK
      refine ⟨rfl, rfl, rfl, by simp, fun k hk hne => ?_⟩
      rw [heap_grow_old _ _ (by simpa using hk)]
      have : g ≠ k := fun e => hne (by rw [← e]; rfl)
      simp [putRow, mapBlock, Sort.ahead, Array.getElem?_modify, this]
end Go.Proofs.Ytnlnkojcbjaeeaa
