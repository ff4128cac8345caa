/- The library's sort at []int: its contract at this program (the numbers and their table: laid by the kit's lay-shelf and lay-plain), and said of a slice that the call owns. Seat B alone. -/
import Derived.Shelf.Sort.Plain
import Derived.Shelf.Slices.In.SortNone
import Derived.Sort.OwnSortedInts
import Derived.Test.YtgeahfkhfpdlhaaG01
namespace Go.Proofs.Ytgeahfkhfpdlhaa
open Go.RowKit Go.Sort

def laysSort_ren : Go.Shelf.Ren := ⟨fun | 189 => 88 | 125 => 109 | 257 => 108 | 128 => 129 | 129 => 130 | 294 => 120 | 295 => 121 | 296 => 122 | 297 => 123 | 298 => 124 | 299 => 125 | 216 => 126 | 300 => 127 | 301 => 128 | 328 => 137 | 329 => 138 | 330 => 139 | 331 => 140 | 332 => 141 | 215 => 142 | 343 => 144 | n => n, fun | 28 => 71 | 3 => 3 | 46 => 152 | 0 => 0 | 51 => 168 | 53 => 170 | 4 => 4 | 183 => 160 | 182 => 159 | 131 => 165 | 5 => 5 | 9 => 9 | 218 => 174 | 222 => 178 | 228 => 181 | 229 => 182 | n => n, fun | n => n⟩
theorem laysSort : Go.Proofs.Lays.n189 Try.prog laysSort_ren := {
  mixed := by kernel_rfl
  f125 := Try.func109.trans (congrArg some (by kernel_rfl))
  f128 := Try.func129.trans (congrArg some (by kernel_rfl))
  f129 := Try.func130.trans (congrArg some (by kernel_rfl))
  f189 := Try.func88.trans (congrArg some (by kernel_rfl))
  f215 := Try.func142.trans (congrArg some (by kernel_rfl))
  f216 := Try.func126.trans (congrArg some (by kernel_rfl))
  f257 := Try.func108.trans (congrArg some (by kernel_rfl))
  f294 := Try.func120.trans (congrArg some (by kernel_rfl))
  f295 := Try.func121.trans (congrArg some (by kernel_rfl))
  f296 := Try.func122.trans (congrArg some (by kernel_rfl))
  f297 := Try.func123.trans (congrArg some (by kernel_rfl))
  f298 := Try.func124.trans (congrArg some (by kernel_rfl))
  f299 := Try.func125.trans (congrArg some (by kernel_rfl))
  f300 := Try.func127.trans (congrArg some (by kernel_rfl))
  f301 := Try.func128.trans (congrArg some (by kernel_rfl))
  f328 := Try.func137.trans (congrArg some (by kernel_rfl))
  f329 := Try.func138.trans (congrArg some (by kernel_rfl))
  f330 := Try.func139.trans (congrArg some (by kernel_rfl))
  f331 := Try.func140.trans (congrArg some (by kernel_rfl))
  f332 := Try.func141.trans (congrArg some (by kernel_rfl))
  f343 := Try.func144.trans (congrArg some (by kernel_rfl))
  t0 := Try.underlying0
  a0 := Try.isAgg0
  z0 := Try.sizeOf0
  v0 := Try.zeroValue0
  t3 := Try.underlying3
  a3 := Try.isAgg3
  z3 := Try.sizeOf3
  v3 := Try.zeroValue3
  t4 := Try.underlying4
  a4 := Try.isAgg4
  z4 := Try.sizeOf4
  v4 := Try.zeroValue4
  t5 := Try.underlying5
  a5 := Try.isAgg5
  z5 := Try.sizeOf5
  v5 := Try.zeroValue5
  t9 := Try.underlying9
  a9 := Try.isAgg9
  z9 := Try.sizeOf9
  v9 := Try.zeroValue9
  t28 := Try.underlying71
  a28 := Try.isAgg71
  z28 := Try.sizeOf71
  v28 := Try.zeroValue71
  t46 := Try.underlying152
  a46 := Try.isAgg152
  z46 := Try.sizeOf152
  v46 := Try.zeroValue152
  t51 := Try.underlying168
  a51 := Try.isAgg168
  z51 := Try.sizeOf168
  v51 := Try.zeroValue168
  t53 := Try.underlying170
  a53 := Try.isAgg170
  z53 := Try.sizeOf170
  v53 := Try.zeroValue170
  t131 := Try.underlying165
  a131 := Try.isAgg165
  z131 := Try.sizeOf165
  v131 := Try.zeroValue165
  t182 := Try.underlying159
  a182 := Try.isAgg159
  z182 := Try.sizeOf159
  v182 := Try.zeroValue159
  t183 := Try.underlying160
  a183 := Try.isAgg160
  z183 := Try.sizeOf160
  v183 := Try.zeroValue160
  t218 := Try.underlying174
  a218 := Try.isAgg174
  z218 := Try.sizeOf174
  v218 := Try.zeroValue174
  t222 := Try.underlying178
  a222 := Try.isAgg178
  z222 := Try.sizeOf178
  v222 := Try.zeroValue178
  t228 := Try.underlying181
  a228 := Try.isAgg181
  z228 := Try.sizeOf181
  v228 := Try.zeroValue181
  t229 := Try.underlying182
  a229 := Try.isAgg182
  z229 := Try.sizeOf182
  v229 := Try.zeroValue182 }
def sortL (xs : List Int) : List Int := xs.mergeSort fun x y => decide (x ≤ y)
theorem sortOwn_any (v : Value) (n base : Nat) (xs : List Int) (w : World) (hown : w.ownsRow base 3 1 v n (xs.map (Value.int .i64))) (hn : n < 4611686018427387904) :
    Calls Try.prog 88 #[v] w fun e w' => e = .returned (.tuple #[]) ∧ w'.ownsRow base 3 1 v n ((sortL xs).map (Value.int .i64)) ∧ w.grownBy w' v.ownBlock := by
  have hl : xs.length = n := by have := hown.1; simpa using this
  rcases hown.2 with ⟨rfl, h0⟩ | ⟨g, cap, cur, rfl, hbase, hb, h1, h2, h3, h4⟩
  · subst h0
    obtain rfl : xs = [] := List.eq_nil_of_length_eq_zero hl
    refine (Any.slices_Sort_int_none laysSort none 0 w).mono ?_
    rintro e w' ⟨rfl, rfl⟩
    exact ⟨rfl, by rw [show sortL [] = [] by simp [sortL]]; exact hown, World.grownBy.refl _ _⟩
  · subst hl
    rw [Nat.mul_one] at h4
    have hlt : g < w.heap.size := (Array.getElem?_eq_some_iff.1 hb).1
    refine (Any.slices_Sort_int laysSort g 0 cap xs w (holds_of_blockI hb h4) hlt hn).mono ?_
    rintro e w' ⟨rfl, m, os, rfl⟩
    exact ⟨rfl, ownsRow_sortedI (ss := xs) (ts := sortL xs) (by simp [sortL]) hbase hb h1 h2 h3, grownBy_sortedI _⟩
end Go.Proofs.Ytgeahfkhfpdlhaa
