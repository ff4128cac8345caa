/- Layer 23, the law SlaveCuts: walked. -/
import Derived.Test.YtgeahfkhfpdlhaaG22
import Derived.Test.YtgeahfkhfpdlhaaG23
import Derived.Test.YtgeahfkhfpdlhaaLex
import Derived.Deep.DeepCutAuto
namespace Go.Proofs.Ytgeahfkhfpdlhaa
open Go.RowKit

theorem cutList {w : World} {B : Nat} {A : Option Addr} {xs : List Bool} (h : RdV w B A xs.length (xs.map Value.bool)) (k : Nat) :
    (∃ b o, A = some ⟨b, o, none⟩ ∧ decide ((k : Int) < (xs.length : Int)) = true ∧ k < xs.length ∧ w.cell? ⟨b, o + k, none⟩ = some (.bool (xs.getD k false))) ∨ (decide ((k : Int) < (xs.length : Int)) = false ∧ decide (k < xs.length) = false ∧ xs.getD k false = false) := by
  by_cases hk : k < xs.length
  · obtain ⟨b, o, e, hb, hc⟩ := h.bool hk
    exact .inl ⟨b, o, e, by simp; omega, hk, hc⟩
  · exact .inr ⟨by simp; omega, by simp; omega, by rw [List.getD_eq_getElem?_getD, List.getElem?_eq_none (by omega)]; rfl⟩
theorem cutOpt {w : World} {B : Nat} {A : Option Addr} {xs : List Bool} (h : RdV w B A xs.length (xs.map Value.bool)) (k : Nat) :
    ∃ (D : Bool) (b o : Nat), decide ((k : Int) < (xs.length : Int)) = D ∧ decide (k < xs.length) = D ∧ (D = true → A = some ⟨b, o, none⟩ ∧ k < xs.length ∧ w.cell? ⟨b, o + k, none⟩ = some (.bool (xs.getD k false))) ∧ (D = false → xs.getD k false = false) := by
  rcases cutList h k with ⟨b, o, e, h1, h2, h3⟩ | ⟨h1, h2, h3⟩
  · exact ⟨true, b, o, h1, by simpa using h2, fun _ => ⟨e, h2, h3⟩, fun h => (by cases h)⟩
  · exact ⟨false, 0, 0, h1, h2, fun h => (by cases h), fun _ => h3⟩
theorem optVal (D : Bool) (x : Value) : ∃ v, (D = true → v = x) ∧ (D = false → v = undef) := by
  cases D
  · exact ⟨undef, fun h => (by cases h), fun _ => rfl⟩
  · exact ⟨x, fun _ => rfl, fun h => (by cases h)⟩
/-- The word of a bit that is shown. -/
theorem cutBit {w : World} {g : Nat} {v : Vw} (h : Blk w g 34 .u16 (shBitsL v)) (i j : Nat) (hi : i < 4) (hj : j < 8) :
    ∃ x : Int, w.cell? ⟨g, 8 * i + j, none⟩ = some (.int .u16 x) ∧ (x == 1) = (vwList v i).getD j false ∧ decide (1 < x) = false := by
  refine ⟨if (vwList v i).getD j false = true then 1 else 0, ?_, ?_⟩
  · rw [h.cell (8 * i + j) (by simp [shBitsL]; omega)]
    have e : (shBitsL v).getD (8 * i + j) 0 = shBitAt v (8 * i + j) := by
      unfold shBitsL
      rw [List.getD_eq_getElem?_getD, List.getElem?_map, List.getElem?_range (by omega)]
      rfl
    rw [e]
    unfold shBitAt
    rw [show (8 * i + j) / 8 = i by omega, show (8 * i + j) % 8 = j by omega]
  · cases (vwList v i).getD j false <;> exact ⟨rfl, rfl⟩

/-- The order of the text serves in region 11. -/
theorem lex11 {ops : List Oper} (hs : Region.noSelect ops.toArray = true) (hA : Region.tabAfter .any ops.toArray = [[], [], [0, 1], [2], [3], [], [], [6], [7], [5, 8], [9], [10], [11, 10], [10], [12, 13, 10], [14, 10], [10, 15], [4, 16], [17, 10], [18], [18], [20, 18], [19, 21, 18], [22, 18], [23, 18], [18], [18], [26, 18], [27, 18], [25, 28, 18], [29, 18, 18], [30], [31, 30], [30], [32, 33, 30], [34, 30], [30, 35, 18], [24, 36, 18], [18, 37], [38, 30], [39], [39], [41, 39], [40, 42, 39], [43, 39], [44, 39], [39], [39], [47, 39], [48, 39], [46, 49, 39], [50, 39, 39], [51], [52, 51], [51], [53, 54, 51], [55, 51], [51, 56, 39], [45, 57, 39], [39, 58], [59, 51], [60], [60], [62, 60], [61, 63, 60], [64, 60], [65, 60], [60], [60], [68, 60], [69, 60], [67, 70, 60], [71, 60, 60], [72], [73, 72], [72], [74, 75, 72], [76, 72], [72, 77, 60], [66, 78, 60], [60, 79], [80, 72], [81], [81], [82, 83, 81], [84, 81], [85, 81], [81, 86]])
    (hD : Region.tabDst ops.toArray = [48, 49, 50, 51, 52, 53, 54, 55, 56, 57, 58, 59, 60, 61, 62, 63, 64, 65, 66, 67, 68, 69, 70, 71, 72, 73, 74, 75, 76, 77, 78, 79, 80, 81, 82, 83, 84, 85, 86, 87, 88, 89, 90, 91, 92, 93, 94, 95, 96, 97, 98, 99, 100, 101, 102, 103, 104, 105, 106, 107, 108, 109, 110, 111, 112, 113, 114, 115, 116, 117, 118, 119, 120, 121, 122, 123, 124, 125, 126, 127, 128, 129, 130, 131, 132, 133, 134, 135])
    (hL : Region.tabLooks ops.toArray = [[4], [6], [47, 48], [49], [50], [6], [1], [53], [54], [52, 55], [56], [1, 57], [58, 57], [6, 57], [59, 60, 57], [61, 57], [57, 62], [51, 63], [64], [4, 65], [6, 65], [67, 65], [66, 68, 65], [69, 65], [70, 65], [6, 65], [1, 65], [73, 65], [74, 65], [72, 75, 65], [76, 65], [1, 77], [78, 77], [6, 77], [79, 80, 77], [81, 77], [77, 82, 65], [71, 83, 65], [65, 84], [85], [4, 86], [6, 86], [88, 86], [87, 89, 86], [90, 86], [91, 86], [6, 86], [1, 86], [94, 86], [95, 86], [93, 96, 86], [97, 86], [1, 98], [99, 98], [6, 98], [100, 101, 98], [102, 98], [98, 103, 86], [92, 104, 86], [86, 105], [106], [4, 107], [6, 107], [109, 107], [108, 110, 107], [111, 107], [112, 107], [6, 107], [1, 107], [115, 107], [116, 107], [114, 117, 107], [118, 107], [1, 119], [120, 119], [6, 119], [121, 122, 119], [123, 119], [119, 124, 107], [113, 125, 107], [107, 126], [127], [4, 128], [6, 128], [129, 130, 128], [131, 128], [132, 128], [128, 133]]) : Region.lexB .any ops.toArray = true := lexB_of hs hA hD hL (by kernel_rfl)
theorem lex6 {ops : List Oper} (hs : Region.noSelect ops.toArray = true) (hA : Region.tabAfter .any ops.toArray = [[], [0], [1], [2], [3], [4, 3], [5, 3], [3, 6], [7, 3], [8], [9, 8], [10, 8], [8], [12, 8], [13, 8], [14, 8], [11, 15, 8], [8, 16], [17, 8], [18], [19, 18], [20, 18], [18], [22, 18], [23, 18], [21, 24, 18], [18, 25]])
    (hD : Region.tabDst ops.toArray = [17, 18, 19, 20, 21, 22, 23, 24, 25, 26, 27, 28, 29, 30, 31, 32, 33, 34, 35, 36, 37, 38, 39, 40, 41, 42, 43])
    (hL : Region.tabLooks ops.toArray = [[4], [16], [17], [18], [5, 19], [20, 19], [21, 19], [19, 22], [23], [5, 24], [25, 24], [26, 24], [1, 24], [28, 24], [29, 24], [30, 24], [27, 31, 24], [24, 32], [33], [5, 34], [35, 34], [36, 34], [1, 34], [38, 34], [39, 34], [37, 40, 34], [34, 41]]) : Region.lexB .any ops.toArray = true := lexB_of hs hA hD hL (by kernel_rfl)
theorem lex13 {ops : List Oper} (hs : Region.noSelect ops.toArray = true) (hA : Region.tabAfter .any ops.toArray = [[], [], [1], [2], [0, 3], [4], [5], [5], [6, 7, 5], [8, 5], [9, 5], [5, 10], [11, 5], [12], [12], [14, 12], [15, 12], [13, 16, 12], [17, 12, 12], [18], [18], [19, 20, 18], [21, 18], [18], [23, 18], [18], [24, 25, 18], [26, 18], [27, 18], [22, 28, 18], [18, 29, 12], [12, 30]])
    (hD : Region.tabDst ops.toArray = [136, 137, 138, 139, 140, 141, 142, 143, 144, 145, 146, 147, 148, 149, 150, 151, 152, 153, 154, 155, 156, 157, 158, 159, 160, 161, 162, 163, 164, 165, 166, 167])
    (hL : Region.tabLooks ops.toArray = [[6], [1], [136], [137], [135, 138], [139], [5, 140], [6, 140], [141, 142, 140], [143, 140], [144, 140], [140, 145], [146], [6, 147], [1, 147], [149, 147], [150, 147], [148, 151, 147], [152, 147], [5, 153], [6, 153], [154, 155, 153], [156, 153], [1, 153], [158, 153], [6, 153], [159, 160, 153], [161, 153], [162, 153], [157, 163, 153], [153, 164, 147], [147, 165]]) : Region.lexB .any ops.toArray = true := lexB_of hs hA hD hL (by kernel_rfl)
theorem lex19 {ops : List Oper} (hs : Region.noSelect ops.toArray = true) (hA : Region.tabAfter .any ops.toArray = [[], [], [1], [2], [0, 3], [4], [], [6], [7], [5, 8], [9], [10], [10], [12, 10], [13, 10], [11, 14, 10], [15, 10], [10], [17, 10], [18, 10], [16, 19, 10], [10, 20], [21, 10], [22], [22], [24, 22], [25, 22], [23, 26, 22], [27, 22], [22], [29, 22], [30, 22], [28, 31, 22], [22, 32]])
    (hD : Region.tabDst ops.toArray = [208, 209, 210, 211, 212, 213, 214, 215, 216, 217, 218, 219, 220, 221, 222, 223, 224, 225, 226, 227, 228, 229, 230, 231, 232, 233, 234, 235, 236, 237, 238, 239, 240, 241])
    (hL : Region.tabLooks ops.toArray = [[5], [6], [208], [209], [207, 210], [211], [7], [213], [214], [212, 215], [216], [5, 217], [6, 217], [219, 217], [220, 217], [218, 221, 217], [222, 217], [7, 217], [224, 217], [225, 217], [223, 226, 217], [217, 227], [228], [5, 229], [6, 229], [231, 229], [232, 229], [230, 233, 229], [234, 229], [7, 229], [236, 229], [237, 229], [235, 238, 229], [229, 239]]) : Region.lexB .any ops.toArray = true := lexB_of hs hA hD hL (by kernel_rfl)
theorem cutLook {w : World} {g : Nat} {v : Vw} {B : Nat} (h : Blk w g 34 .u16 (shRegsL v)) (hv : RdI w B .i64 v.aL v.looks.length v.looks) (k : Nat) (hk : k < 8) :
    (∃ b o x, v.aL = some ⟨b, o, none⟩ ∧ decide ((k : Int) < (v.looks.length : Int)) = true ∧ decide ((v.looks.length : Int) ≤ (k : Int)) = false ∧ decide (k < v.looks.length) = true ∧ decide (v.looks.length ≤ k) = false ∧ k < v.looks.length ∧ w.cell? ⟨b, o + k, none⟩ = some (.int .i64 x) ∧ w.cell? ⟨g, k, none⟩ = some (.int .u16 (wr16 x))) ∨
    (decide ((k : Int) < (v.looks.length : Int)) = false ∧ decide ((v.looks.length : Int) ≤ (k : Int)) = true ∧ decide (k < v.looks.length) = false ∧ decide (v.looks.length ≤ k) = true ∧ w.cell? ⟨g, k, none⟩ = some (.int .u16 0)) := by
  have hc := h.cell k (by simp [shRegsL]; omega)
  have e : (shRegsL v).getD k 0 = shRegAt v k := by
    unfold shRegsL
    rw [List.getD_eq_getElem?_getD, List.getElem?_map, List.getElem?_range (by omega)]
    rfl
  rw [e] at hc
  unfold shRegAt at hc
  rw [if_pos hk] at hc
  by_cases hl : k < v.looks.length
  · rw [if_pos hl] at hc
    obtain ⟨b, o, e1, _, hx⟩ := hv.at_ hl
    exact .inl ⟨b, o, _, e1, by simp; omega, by simp; omega, by simp; omega, by simp; omega, hl, hx, hc⟩
  · rw [if_neg hl] at hc
    exact .inr ⟨by simp; omega, by simp; omega, by simp; omega, by simp; omega, hc⟩
theorem cutNote {w : World} {g : Nat} {v : Vw} {B : Nat} (h : Blk w g 34 .u16 (shRegsL v)) (hv : RdV w B v.aN v.ns.length (v.ns.flatMap Nt.cells)) (k : Nat) (hk : k < 8) :
    (∃ (b o m : Nat) (t : Nt), v.aN = some ⟨b, o, none⟩ ∧ decide ((v.ns.length : Int) ≤ (k : Int)) = false ∧ decide (v.ns.length ≤ k) = false ∧ (v.ns.length : Int) - 1 - (k : Int) = (m : Int) ∧ m < v.ns.length ∧ (w.cell? ⟨b, o + m * 3, none⟩ = some (.int .i64 t.kind) ∧ w.cell? ⟨b, o + m * 3 + 1, none⟩ = some (.int .i64 t.who) ∧ w.cell? ⟨b, o + m * 3 + 2, none⟩ = some (.int .i64 t.at_)) ∧
      w.cell? ⟨g, 10 + 3 * k, none⟩ = some (.int .u16 (wr16 t.kind)) ∧ w.cell? ⟨g, 11 + 3 * k, none⟩ = some (.int .u16 (wr16 t.who)) ∧ w.cell? ⟨g, 12 + 3 * k, none⟩ = some (.int .u16 (wr16 t.at_))) ∨
    (decide ((v.ns.length : Int) ≤ (k : Int)) = true ∧ decide (v.ns.length ≤ k) = true ∧ w.cell? ⟨g, 10 + 3 * k, none⟩ = some (.int .u16 0) ∧ w.cell? ⟨g, 11 + 3 * k, none⟩ = some (.int .u16 0) ∧ w.cell? ⟨g, 12 + 3 * k, none⟩ = some (.int .u16 0)) := by
  have hc : ∀ i, i < 3 → w.cell? ⟨g, 10 + i + 3 * k, none⟩ = some (.int .u16 (if k < v.ns.length then wr16 (noteF (v.ns.getD (v.ns.length - 1 - k) noteZ) i) else 0)) := fun i hi => by
    rw [h.cell (10 + i + 3 * k) (by simp [shRegsL]; omega)]
    have e : (shRegsL v).getD (10 + i + 3 * k) 0 = shRegAt v (10 + i + 3 * k) := by
      unfold shRegsL
      rw [List.getD_eq_getElem?_getD, List.getElem?_map, List.getElem?_range (by omega)]
      rfl
    rw [e]
    unfold shRegAt
    rw [if_neg (by omega), if_neg (by omega), if_neg (by omega), show (10 + i + 3 * k - 10) / 3 = k by omega, show (10 + i + 3 * k - 10) % 3 = i by omega]
  have c0 := hc 0 (by omega)
  have c1 := hc 1 (by omega)
  have c2 := hc 2 (by omega)
  by_cases hl : k < v.ns.length
  · rw [if_pos hl] at c0 c1 c2
    obtain ⟨b, o, e1, _, n0, n1, n2⟩ := hv.note (show v.ns.length - 1 - k < v.ns.length by omega)
    exact .inl ⟨b, o, v.ns.length - 1 - k, _, e1, by simp; omega, by simp; omega, by omega, by omega, ⟨n0, n1, n2⟩, c0, c1, c2⟩
  · rw [if_neg hl] at c0 c1 c2
    exact .inr ⟨by simp; omega, by simp; omega, c0, c1, c2⟩
set_option maxRecDepth 100000 in
set_option maxHeartbeats 12800000 in
theorem slaveCuts_any (v : Vw) (w : World) (hv : RdVw w v) (h0 : v.looks.length ≤ 1000000000000000) (h1 : v.cs.length ≤ 1000000000000000) (h2 : v.es.length ≤ 1000000000000000) (h3 : v.bs.length ≤ 1000000000000000) (h4 : v.ts.length ≤ 1000000000000000) (h5 : v.ns.length ≤ 1000000000000000) :
    Calls Try.prog 15 #[.agg v.cells] w fun e w' => e = .returned (.bool true) ∧ Ext w w' := by
  have hgv := fun w' => greatView_any v w' h0 h1 h2 h3 h4 h5
  have hv' := Lib.hid hv
  have W0 := heap_alloc_new w (.cells #[.slice v.aL v.looks.length v.cL, .int .i64 v.horn, .slice v.aC v.cs.length v.cC, .slice v.aE v.es.length v.cE, .slice v.aB v.bs.length v.cB, .slice v.aT v.ts.length v.cT, .slice v.aN v.ns.length v.cN] 88)
  have E0 := (Ext.refl w).goA (.cells #[.slice v.aL v.looks.length v.cL, .int .i64 v.horn, .slice v.aC v.cs.length v.cC, .slice v.aE v.es.length v.cE, .slice v.aB v.bs.length v.cB, .slice v.aT v.ts.length v.cT, .slice v.aN v.ns.length v.cN] 88)
  have bq : ∀ w', Ext (w.alloc (.cells #[.slice v.aL v.looks.length v.cL, .int .i64 v.horn, .slice v.aC v.cs.length v.cC, .slice v.aE v.es.length v.cE, .slice v.aB v.bs.length v.cB, .slice v.aT v.ts.length v.cT, .slice v.aN v.ns.length v.cN] 88)) w' → ∀ o, w'.cell? ⟨w.heap.size, o, none⟩ = _ := fun w' D => cellsAt ((D.block w.heap.size (by simp)).trans W0)
  have bq' := Lib.hid bq
  have hgv' := Lib.hid hgv
  have hreg := Lib.hid (fun w' (E : Ext w w') => slvRegs_any v w' (hv.ext E))
  have hbit := Lib.hid (fun w' (E : Ext w w') => slvBits_any v w' (hv.ext E))
  clear bq hgv W0 hv
  unfold Vw.cells at *
  go_enter Try.func15, Try.ntmps15
  go_wp2_with fail
  generalize w.alloc (.cells #[.slice v.aL v.looks.length v.cL, .int .i64 v.horn, .slice v.aC v.cs.length v.cC, .slice v.aE v.es.length v.cE, .slice v.aB v.bs.length v.cB, .slice v.aT v.ts.length v.cT, .slice v.aN v.ns.length v.cN] 88) = W0 at *
  refine (slvHead_any W0).mono ?_
  rintro e W1 ⟨rfl, D1⟩
  have q1 := bq'.out W1 D1
  go_wp2_with fail
  refine (hgv'.out W1).mono ?_
  rintro e W2 ⟨x, rfl, hx, D2⟩
  have E2 := D1.go D2
  have q2 := bq'.out W2 E2
  clear q1
  cases x
  · obtain ⟨l0, l1, l2, l3, l4, l5⟩ := hx rfl
    go_wp2_with fail
    refine (hbit.out W2 (E0.go E2)).mono ?_
    rintro e W3 ⟨gb, rfl, KB, D3, _⟩
    have E3 := E2.go D3
    have q3 := bq'.out W3 E3
    clear q2
    go_wp2_with fail
    refine (hreg.out W3 (E0.go E3)).mono ?_
    rintro e W4 ⟨gr, rfl, KR, D4, _⟩
    have E4 := E3.go D4
    have q4 := bq'.out W4 E4
    have KB4 := KB.below D4 KB.lt
    have a9 : W4.cell? ⟨gr, 9, none⟩ = some (.int .u16 (wr16 (v.ns.length : Int))) := by
      have := KR.cell 9 (by simp [shRegsL])
      rw [this]
      simp [shRegsL, shRegAt]
    have a8 : W4.cell? ⟨gr, 8, none⟩ = some (.int .u16 (wr16 v.horn)) := by
      have := KR.cell 8 (by simp [shRegsL])
      rw [this]
      simp [shRegsL, shRegAt]
    have u9 : IntKind.u16.wrap (v.ns.length : Int) = wr16 (v.ns.length : Int) := rfl
    have u8' : IntKind.u16.wrap v.horn = wr16 v.horn := rfl
    have KB' := Lib.hid KB4
    have KR' := Lib.hid KR
    clear KB KB4 KR q3
    go_wp2_with fail
    refine wp_region_quiet_lit (by kernel_rfl) (lex6 (by kernel_rfl) (by kernel_rfl) (by kernel_rfl) (by kernel_rfl)) ?_
    repeat (first | go_big_quiet_skip | (go_big_quiet_want; go_big_quiet_op; go_big_quiet_on))
    refine wpQuiet_nil ?_
    intro _ hw'
    obtain ⟨nq, hw''⟩ := hw'
    subst hw''
    clear a8 a9 u9 u8' q4
    go_wp2_with fail
    go_loopw [6] (fun i wr => ∃ k : Nat, k ≤ 8 ∧ i = .int .i64 k ∧ Ext W4 wr) (fun i _ => 8 - (intOf i).toNat)
    case atStart => exact ⟨0, by omega, rfl, (Ext.refl _).goD _⟩
    case round =>
      obtain ⟨k, hk, rfl, hE⟩ := hrel
      have Er := E4.go hE
      have qr := bq'.out wr Er
      have KBr := Lib.hid (KB'.out.below hE KB'.out.lt)
      have KRr := Lib.hid (KR'.out.below hE KR'.out.lt)
      by_cases hlt : k < 8
      · have f1 : decide ((k : Int) < 8) = true := by simp; omega
        go_upto_region 11 with fail
        obtain ⟨x0, y0, z0, r0⟩ := cutBit KBr.out 0 k (by omega) hlt
        obtain ⟨x1, y1, z1, r1⟩ := cutBit KBr.out 1 k (by omega) hlt
        obtain ⟨x2, y2, z2, r2⟩ := cutBit KBr.out 2 k (by omega) hlt
        obtain ⟨x3, y3, z3, r3⟩ := cutBit KBr.out 3 k (by omega) hlt
        have hvr := Lib.hid (hv'.out.ext (E0.go Er))
        have t0 := cutOpt hvr.out.cs k
        have t1 := cutOpt hvr.out.es k
        have t2 := cutOpt hvr.out.bs k
        have t3 := cutOpt hvr.out.ts k
        change (x0 == 1) = v.cs.getD k false at z0
        change (x1 == 1) = v.es.getD k false at z1
        change (x2 == 1) = v.bs.getD k false at z2
        change (x3 == 1) = v.ts.getD k false at z3
        generalize v.cs.getD k false = B0 at *
        generalize v.es.getD k false = B1 at *
        generalize v.bs.getD k false = B2 at *
        generalize v.ts.getD k false = B3 at *
        rw [show 8 * 0 + k = k by omega] at y0
        obtain ⟨m1, hm1⟩ : ∃ m : Nat, 8 * 1 + k = m := ⟨_, rfl⟩
        obtain ⟨m2, hm2⟩ : ∃ m : Nat, 8 * 2 + k = m := ⟨_, rfl⟩
        obtain ⟨m3, hm3⟩ : ∃ m : Nat, 8 * 3 + k = m := ⟨_, rfl⟩
        rw [hm1] at y1
        rw [hm2] at y2
        rw [hm3] at y3
        have w1 : IntKind.i64.wrap (8 + (k : Int)) = (m1 : Int) := by rw [IntKind.wrap_i64]; omega
        have w2 : IntKind.i64.wrap (16 + (k : Int)) = (m2 : Int) := by rw [IntKind.wrap_i64]; omega
        have w3 : IntKind.i64.wrap (24 + (k : Int)) = (m3 : Int) := by rw [IntKind.wrap_i64]; omega
        have n1 : m1 < 32 := by omega
        have n2 : m2 < 32 := by omega
        have n3 : m3 < 32 := by omega
        have v1 : (8 : Int) + (k : Int) = (m1 : Int) := by omega
        have v2 : (16 : Int) + (k : Int) = (m2 : Int) := by omega
        have v3 : (24 : Int) + (k : Int) = (m3 : Int) := by omega
        clear hm1 hm2 hm3
        have tl := Lib.hid (cutLook KRr.out hvr.out.looks k hlt)
        have tn := Lib.hid (cutNote KRr.out hvr.out.ns k hlt)
        go_cut [134] (fun s wx => s = .bool false ∧ Ext wr wx)
        case first =>
          obtain ⟨D0, b0, o0, dI0, dN0, e0, f0'⟩ := t0
          obtain ⟨D1, b1, o1, dI1, dN1, e1, f1'⟩ := t1
          obtain ⟨D2, b2, o2, dI2, dN2, e2, f2'⟩ := t2
          obtain ⟨D3, b3, o3, dI3, dN3, e3, f3'⟩ := t3
          have hb0 := Lib.hid e0
          have hf0 := Lib.hid f0'
          have hb1 := Lib.hid e1
          have hf1 := Lib.hid f1'
          have hb2 := Lib.hid e2
          have hf2 := Lib.hid f2'
          have hb3 := Lib.hid e3
          have hf3 := Lib.hid f3'
          clear e0 e1 e2 e3 f0' f1' f2' f3'
          refine wp_region_quiet_lit (by kernel_rfl) (lex11 (by kernel_rfl) (by kernel_rfl) (by kernel_rfl) (by kernel_rfl)) ?_
          simp only [List.append_eq, List.cons_append, List.nil_append]
          have hC : Hid (∃ w', (fun w' => ∃ n, w' = wr.drewN n) w') := Lib.hid ⟨wr.drewN 0, 0, rfl⟩
          iterate 11 (first | go_big_quiet_skip | (go_big_quiet_want; go_big_quiet_op; go_big_quiet_on))
          obtain ⟨v58, h58⟩ := optVal D0 (.pointer (some ⟨w.heap.size, 2, none⟩))
          have h58 := Lib.hid h58
          obtain ⟨v59, h59⟩ := optVal D0 (.slice (some ⟨b0, o0, none⟩) v.cs.length v.cC)
          have h59 := Lib.hid h59
          obtain ⟨v60, h60⟩ := optVal D0 (.int .i64 (k : Int))
          have h60 := Lib.hid h60
          obtain ⟨v61, h61⟩ := optVal D0 (.pointer (some ⟨b0, o0 + k, none⟩))
          have h61 := Lib.hid h61
          obtain ⟨v62, h62⟩ := optVal D0 (.bool B0)
          have h62 := Lib.hid h62
          refine wpQuiet_told D0 v58 hC.out (by cases D0 <;> rfl) h58.out.2 ?_ ?_
          · intro hD K hK
            have q0 := h58.out.1 hD
            obtain ⟨ga, gl, gc⟩ := hb0.out hD
            subst hD
            subst q0
            clear ga
            go_big_quiet_op
            exact hK
          intro K hK; go_big_quiet_op; go_big_quiet_on
          refine wpQuiet_told D0 v59 hC.out (by cases D0 <;> rfl) h59.out.2 ?_ ?_
          · intro hD K hK
            have q0 := h58.out.1 hD
            have q1 := h59.out.1 hD
            obtain ⟨ga, gl, gc⟩ := hb0.out hD
            subst hD
            subst q0
            subst q1
            rw [ga] at qr
            clear ga
            go_big_quiet_op
            exact hK
          intro K hK; go_big_quiet_op; go_big_quiet_on
          refine wpQuiet_told D0 v60 hC.out (by cases D0 <;> rfl) h60.out.2 ?_ ?_
          · intro hD K hK
            have q2 := h60.out.1 hD
            obtain ⟨ga, gl, gc⟩ := hb0.out hD
            subst hD
            subst q2
            clear ga
            go_big_quiet_op
            exact hK
          intro K hK; go_big_quiet_op; go_big_quiet_on
          refine wpQuiet_told D0 v61 hC.out (by cases D0 <;> rfl) h61.out.2 ?_ ?_
          · intro hD K hK
            have q1 := h59.out.1 hD
            have q2 := h60.out.1 hD
            have q3 := h61.out.1 hD
            obtain ⟨ga, gl, gc⟩ := hb0.out hD
            subst hD
            subst q1
            subst q2
            subst q3
            clear ga
            go_big_quiet_op
            exact hK
          intro K hK; go_big_quiet_op; go_big_quiet_on
          refine wpQuiet_told D0 v62 hC.out (by cases D0 <;> rfl) h62.out.2 ?_ ?_
          · intro hD K hK
            have q3 := h61.out.1 hD
            have q4 := h62.out.1 hD
            obtain ⟨ga, gl, gc⟩ := hb0.out hD
            subst hD
            subst q3
            subst q4
            clear ga
            go_big_quiet_op
            exact hK
          intro K hK; go_big_quiet_op; go_big_quiet_on
          refine wpQuiet_told true (.bool B0) hC.out rfl (fun h => by cases h) ?_ ?_
          · intro _ K hK
            cases hD : D0
            · have q := hf0.out hD
              subst hD
              subst q
              go_big_quiet_op
              exact hK
            · have q := h62.out.1 hD
              subst hD
              subst q
              go_big_quiet_op
              exact hK
          intro K hK; go_big_quiet_op; go_big_quiet_on
          iterate 14 (first | go_big_quiet_skip | (go_big_quiet_want; go_big_quiet_op; go_big_quiet_on))
          obtain ⟨v78, h78⟩ := optVal D1 (.pointer (some ⟨w.heap.size, 3, none⟩))
          have h78 := Lib.hid h78
          obtain ⟨v79, h79⟩ := optVal D1 (.slice (some ⟨b1, o1, none⟩) v.es.length v.cE)
          have h79 := Lib.hid h79
          obtain ⟨v80, h80⟩ := optVal D1 (.int .i64 (k : Int))
          have h80 := Lib.hid h80
          obtain ⟨v81, h81⟩ := optVal D1 (.pointer (some ⟨b1, o1 + k, none⟩))
          have h81 := Lib.hid h81
          obtain ⟨v82, h82⟩ := optVal D1 (.bool B1)
          have h82 := Lib.hid h82
          refine wpQuiet_told D1 v78 hC.out (by cases D1 <;> rfl) h78.out.2 ?_ ?_
          · intro hD K hK
            have q0 := h78.out.1 hD
            obtain ⟨ga, gl, gc⟩ := hb1.out hD
            subst hD
            subst q0
            clear ga
            go_big_quiet_op
            exact hK
          intro K hK; go_big_quiet_op; go_big_quiet_on
          refine wpQuiet_told D1 v79 hC.out (by cases D1 <;> rfl) h79.out.2 ?_ ?_
          · intro hD K hK
            have q0 := h78.out.1 hD
            have q1 := h79.out.1 hD
            obtain ⟨ga, gl, gc⟩ := hb1.out hD
            subst hD
            subst q0
            subst q1
            rw [ga] at qr
            clear ga
            go_big_quiet_op
            exact hK
          intro K hK; go_big_quiet_op; go_big_quiet_on
          refine wpQuiet_told D1 v80 hC.out (by cases D1 <;> rfl) h80.out.2 ?_ ?_
          · intro hD K hK
            have q2 := h80.out.1 hD
            obtain ⟨ga, gl, gc⟩ := hb1.out hD
            subst hD
            subst q2
            clear ga
            go_big_quiet_op
            exact hK
          intro K hK; go_big_quiet_op; go_big_quiet_on
          refine wpQuiet_told D1 v81 hC.out (by cases D1 <;> rfl) h81.out.2 ?_ ?_
          · intro hD K hK
            have q1 := h79.out.1 hD
            have q2 := h80.out.1 hD
            have q3 := h81.out.1 hD
            obtain ⟨ga, gl, gc⟩ := hb1.out hD
            subst hD
            subst q1
            subst q2
            subst q3
            clear ga
            go_big_quiet_op
            exact hK
          intro K hK; go_big_quiet_op; go_big_quiet_on
          refine wpQuiet_told D1 v82 hC.out (by cases D1 <;> rfl) h82.out.2 ?_ ?_
          · intro hD K hK
            have q3 := h81.out.1 hD
            have q4 := h82.out.1 hD
            obtain ⟨ga, gl, gc⟩ := hb1.out hD
            subst hD
            subst q3
            subst q4
            clear ga
            go_big_quiet_op
            exact hK
          intro K hK; go_big_quiet_op; go_big_quiet_on
          refine wpQuiet_told true (.bool B1) hC.out rfl (fun h => by cases h) ?_ ?_
          · intro _ K hK
            cases hD : D1
            · have q := hf1.out hD
              subst hD
              subst q
              go_big_quiet_op
              exact hK
            · have q := h82.out.1 hD
              subst hD
              subst q
              go_big_quiet_op
              exact hK
          intro K hK; go_big_quiet_op; go_big_quiet_on
          iterate 15 (first | go_big_quiet_skip | (go_big_quiet_want; go_big_quiet_op; go_big_quiet_on))
          obtain ⟨v99, h99⟩ := optVal D2 (.pointer (some ⟨w.heap.size, 4, none⟩))
          have h99 := Lib.hid h99
          obtain ⟨v100, h100⟩ := optVal D2 (.slice (some ⟨b2, o2, none⟩) v.bs.length v.cB)
          have h100 := Lib.hid h100
          obtain ⟨v101, h101⟩ := optVal D2 (.int .i64 (k : Int))
          have h101 := Lib.hid h101
          obtain ⟨v102, h102⟩ := optVal D2 (.pointer (some ⟨b2, o2 + k, none⟩))
          have h102 := Lib.hid h102
          obtain ⟨v103, h103⟩ := optVal D2 (.bool B2)
          have h103 := Lib.hid h103
          refine wpQuiet_told D2 v99 hC.out (by cases D2 <;> rfl) h99.out.2 ?_ ?_
          · intro hD K hK
            have q0 := h99.out.1 hD
            obtain ⟨ga, gl, gc⟩ := hb2.out hD
            subst hD
            subst q0
            clear ga
            go_big_quiet_op
            exact hK
          intro K hK; go_big_quiet_op; go_big_quiet_on
          refine wpQuiet_told D2 v100 hC.out (by cases D2 <;> rfl) h100.out.2 ?_ ?_
          · intro hD K hK
            have q0 := h99.out.1 hD
            have q1 := h100.out.1 hD
            obtain ⟨ga, gl, gc⟩ := hb2.out hD
            subst hD
            subst q0
            subst q1
            rw [ga] at qr
            clear ga
            go_big_quiet_op
            exact hK
          intro K hK; go_big_quiet_op; go_big_quiet_on
          refine wpQuiet_told D2 v101 hC.out (by cases D2 <;> rfl) h101.out.2 ?_ ?_
          · intro hD K hK
            have q2 := h101.out.1 hD
            obtain ⟨ga, gl, gc⟩ := hb2.out hD
            subst hD
            subst q2
            clear ga
            go_big_quiet_op
            exact hK
          intro K hK; go_big_quiet_op; go_big_quiet_on
          refine wpQuiet_told D2 v102 hC.out (by cases D2 <;> rfl) h102.out.2 ?_ ?_
          · intro hD K hK
            have q1 := h100.out.1 hD
            have q2 := h101.out.1 hD
            have q3 := h102.out.1 hD
            obtain ⟨ga, gl, gc⟩ := hb2.out hD
            subst hD
            subst q1
            subst q2
            subst q3
            clear ga
            go_big_quiet_op
            exact hK
          intro K hK; go_big_quiet_op; go_big_quiet_on
          refine wpQuiet_told D2 v103 hC.out (by cases D2 <;> rfl) h103.out.2 ?_ ?_
          · intro hD K hK
            have q3 := h102.out.1 hD
            have q4 := h103.out.1 hD
            obtain ⟨ga, gl, gc⟩ := hb2.out hD
            subst hD
            subst q3
            subst q4
            clear ga
            go_big_quiet_op
            exact hK
          intro K hK; go_big_quiet_op; go_big_quiet_on
          refine wpQuiet_told true (.bool B2) hC.out rfl (fun h => by cases h) ?_ ?_
          · intro _ K hK
            cases hD : D2
            · have q := hf2.out hD
              subst hD
              subst q
              go_big_quiet_op
              exact hK
            · have q := h103.out.1 hD
              subst hD
              subst q
              go_big_quiet_op
              exact hK
          intro K hK; go_big_quiet_op; go_big_quiet_on
          iterate 15 (first | go_big_quiet_skip | (go_big_quiet_want; go_big_quiet_op; go_big_quiet_on))
          obtain ⟨v120, h120⟩ := optVal D3 (.pointer (some ⟨w.heap.size, 5, none⟩))
          have h120 := Lib.hid h120
          obtain ⟨v121, h121⟩ := optVal D3 (.slice (some ⟨b3, o3, none⟩) v.ts.length v.cT)
          have h121 := Lib.hid h121
          obtain ⟨v122, h122⟩ := optVal D3 (.int .i64 (k : Int))
          have h122 := Lib.hid h122
          obtain ⟨v123, h123⟩ := optVal D3 (.pointer (some ⟨b3, o3 + k, none⟩))
          have h123 := Lib.hid h123
          obtain ⟨v124, h124⟩ := optVal D3 (.bool B3)
          have h124 := Lib.hid h124
          refine wpQuiet_told D3 v120 hC.out (by cases D3 <;> rfl) h120.out.2 ?_ ?_
          · intro hD K hK
            have q0 := h120.out.1 hD
            obtain ⟨ga, gl, gc⟩ := hb3.out hD
            subst hD
            subst q0
            clear ga
            go_big_quiet_op
            exact hK
          intro K hK; go_big_quiet_op; go_big_quiet_on
          refine wpQuiet_told D3 v121 hC.out (by cases D3 <;> rfl) h121.out.2 ?_ ?_
          · intro hD K hK
            have q0 := h120.out.1 hD
            have q1 := h121.out.1 hD
            obtain ⟨ga, gl, gc⟩ := hb3.out hD
            subst hD
            subst q0
            subst q1
            rw [ga] at qr
            clear ga
            go_big_quiet_op
            exact hK
          intro K hK; go_big_quiet_op; go_big_quiet_on
          refine wpQuiet_told D3 v122 hC.out (by cases D3 <;> rfl) h122.out.2 ?_ ?_
          · intro hD K hK
            have q2 := h122.out.1 hD
            obtain ⟨ga, gl, gc⟩ := hb3.out hD
            subst hD
            subst q2
            clear ga
            go_big_quiet_op
            exact hK
          intro K hK; go_big_quiet_op; go_big_quiet_on
          refine wpQuiet_told D3 v123 hC.out (by cases D3 <;> rfl) h123.out.2 ?_ ?_
          · intro hD K hK
            have q1 := h121.out.1 hD
            have q2 := h122.out.1 hD
            have q3 := h123.out.1 hD
            obtain ⟨ga, gl, gc⟩ := hb3.out hD
            subst hD
            subst q1
            subst q2
            subst q3
            clear ga
            go_big_quiet_op
            exact hK
          intro K hK; go_big_quiet_op; go_big_quiet_on
          refine wpQuiet_told D3 v124 hC.out (by cases D3 <;> rfl) h124.out.2 ?_ ?_
          · intro hD K hK
            have q3 := h123.out.1 hD
            have q4 := h124.out.1 hD
            obtain ⟨ga, gl, gc⟩ := hb3.out hD
            subst hD
            subst q3
            subst q4
            clear ga
            go_big_quiet_op
            exact hK
          intro K hK; go_big_quiet_op; go_big_quiet_on
          refine wpQuiet_told true (.bool B3) hC.out rfl (fun h => by cases h) ?_ ?_
          · intro _ K hK
            cases hD : D3
            · have q := hf3.out hD
              subst hD
              subst q
              go_big_quiet_op
              exact hK
            · have q := h124.out.1 hD
              subst hD
              subst q
              go_big_quiet_op
              exact hK
          intro K hK; go_big_quiet_op; go_big_quiet_on
          iterate 9 (first | go_big_quiet_skip | (go_big_quiet_want; go_big_quiet_op; go_big_quiet_on))
          refine wpQuiet_nil ?_
          intro _ hw'
          obtain ⟨nq, hw''⟩ := hw'
          subst hw''
          go_wp2_with fail
          go_meet
          exact ⟨rfl, (Ext.refl _).goD _⟩
        case rest =>
          obtain ⟨rfl, hX⟩ := hcut
          have Ec := hE.go hX
          have qc := bq'.out wc (E4.go Ec)
          have KRc := Lib.hid (KR'.out.below Ec KR'.out.lt)
          have hvc := Lib.hid (hv'.out.ext (E0.go (E4.go Ec)))
          have tl := cutLook KRc.out hvc.out.looks k hlt
          clear t0 t1 t2 t3 y0 y1 y2 y3 z0 z1 z2 z3 r0 r1 r2 r3 w1 w2 w3 v1 v2 v3 n1 n2 n3 qr KBr KRr hvr
          go_upto_region 13 with fail
          go_cut [166] (fun s wx => s = .bool false ∧ Ext wc wx)
          case first =>
            rcases tl with ⟨bl, ol, x, al, d0, d1, d2, d3, i0, cl, cr⟩ | ⟨d0, d1, d2, d3, cr⟩
            all_goals try rw [al] at qc
            all_goals try clear al
            all_goals try have ux : IntKind.u16.wrap x = wr16 x := rfl
            all_goals
              refine wp_region_quiet_lit (by kernel_rfl) (lex13 (by kernel_rfl) (by kernel_rfl) (by kernel_rfl) (by kernel_rfl)) ?_
              repeat (first | go_big_quiet_skip | (go_big_quiet_want; go_big_quiet_op; go_big_quiet_on))
              refine wpQuiet_nil ?_
              intro _ hw'
              obtain ⟨nq2, hw''⟩ := hw'
              subst hw''
              go_wp2_with fail
              go_meet
              exact ⟨rfl, (Ext.refl _).goD _⟩
          case rest =>
            obtain ⟨rfl, hY⟩ := hcut
            have Ey := Ec.go hY
            have qy := bq'.out wc (E4.go Ey)
            have KRy := Lib.hid (KR'.out.below Ey KR'.out.lt)
            have hvy := Lib.hid (hv'.out.ext (E0.go (E4.go Ey)))
            have tn := cutNote KRy.out hvy.out.ns k hlt
            clear tl qc KRc hvc
            obtain ⟨p0, hp0⟩ : ∃ m : Nat, 10 + 3 * k = m := ⟨_, rfl⟩
            obtain ⟨p1, hp1⟩ : ∃ m : Nat, 11 + 3 * k = m := ⟨_, rfl⟩
            obtain ⟨p2, hp2⟩ : ∃ m : Nat, 12 + 3 * k = m := ⟨_, rfl⟩
            rw [hp0, hp1, hp2] at tn
            obtain ⟨k3, hk3⟩ : ∃ m : Nat, 3 * k = m := ⟨_, rfl⟩
            have i0 : (3 : Int) * (k : Int) = (k3 : Int) := by omega
            have i1 : (10 : Int) + (k3 : Int) = (p0 : Int) := by omega
            have i2 : (11 : Int) + (k3 : Int) = (p1 : Int) := by omega
            have i3 : (12 : Int) + (k3 : Int) = (p2 : Int) := by omega
            have b0 : p0 < 34 := by omega
            have b1 : p1 < 34 := by omega
            have b2 : p2 < 34 := by omega
            clear hp0 hp1 hp2
            rcases tn with ⟨b, o, m, t, an, d0, d1, dm, dl, ⟨c0, c1, c2⟩, r0, r1, r2⟩ | ⟨d0, d1, r0, r1, r2⟩
            · rw [an] at qy
              clear an
              have uk : IntKind.u16.wrap t.kind = wr16 t.kind := rfl
              have uw : IntKind.u16.wrap t.who = wr16 t.who := rfl
              have ua : IntKind.u16.wrap t.at_ = wr16 t.at_ := rfl
              have nw := cellsAt (heap_alloc_new wc (.cells #[.int .i64 t.kind, .int .i64 t.who, .int .i64 t.at_] 105))
              have XA := (Ext.refl wc).goA (.cells #[.int .i64 t.kind, .int .i64 t.who, .int .i64 t.at_] 105)
              have s0 := fun (w' : World) (E : Ext wc w') => (E.cell p0 KRy.out.lt).trans r0
              have s1 := fun (w' : World) (E : Ext wc w') => (E.cell p1 KRy.out.lt).trans r1
              have s2 := fun (w' : World) (E : Ext wc w') => (E.cell p2 KRy.out.lt).trans r2
              have g0 := s0 _ XA
              have g1 := s1 _ XA
              have g2 := s2 _ XA
              clear s0 s1 s2
              go_upto_region 19 with fail
              refine wp_region_quiet_lit (by kernel_rfl) (lex19 (by kernel_rfl) (by kernel_rfl) (by kernel_rfl) (by kernel_rfl)) ?_
              repeat (first | go_big_quiet_skip | (go_big_quiet_want; go_big_quiet_op; go_big_quiet_on))
              refine wpQuiet_nil ?_
              intro _ hw'
              obtain ⟨nq, hw''⟩ := hw'
              subst hw''
              go_wp2_with fail
              go_roundw
              case rel => exact ⟨k + 1, by omega, by go_num, (Ey.go XA).goD _⟩
              case measure => simp [intOf]; omega
            · go_wp2_with fail
              go_roundw
              case rel => exact ⟨k + 1, by omega, by go_num, Ey⟩
              case measure => simp [intOf]; omega
      · obtain rfl : k = 8 := by omega
        go_upto_region 11 with fail
        go_ret
        exact ⟨rfl, E0.go Er⟩
  · go_wp2_with fail
    go_ret
    exact ⟨rfl, E0.go E2⟩
end Go.Proofs.Ytgeahfkhfpdlhaa
