
/- Maps keyed by integers that are known whole: what a store of a new key, and a look-up, do. -/
import Derived.Test.YtgeahfkhfpdlhaaWords
import Derived.Carry
namespace Go.Proofs.Ytgeahfkhfpdlhaa
open Go.RowKit

theorem getObj_at {P : Program} {w : World} {g : Nat} {es : Array MapEntry} {c : Nat} (h : w.heap[g]? = some (.map es c)) : (getObj g).run P w = .ok (.map es c) w := by
  simp [getObj, Sem.run, h]
theorem setObj_at {P : Program} (w : World) (es : Array MapEntry) (c : Nat) (o : Obj) : (setObj w.heap.size o).run P (w.alloc (.map es c)) = .ok () (w.alloc o) := by
  have h := heap_alloc_new w (.map es c)
  have e : (w.heap.push (.map es c)).setIfInBounds w.heap.size o = w.heap.push o := by
    apply Array.ext_getElem?
    intro i
    rw [Array.getElem?_setIfInBounds, Array.getElem?_push, Array.getElem?_push, Array.size_push]
    by_cases hi : w.heap.size = i
    · subst hi; simp
    · rw [if_neg hi, if_neg (fun e => hi e.symm), if_neg (fun e => hi e.symm)]
  simp only [setObj, Sem.run, h]
  show Result.ok () ({ w with heap := (w.heap.push (.map es c)).setIfInBounds w.heap.size o } : World) = Result.ok () { w with heap := w.heap.push o }
  rw [e]
section
variable {P : Program} {t kt et : TypeId} {ik : IntKind}
theorem check_int (n : Nat) (b : Bool) (w : World) (k : Int) (hk : P.underlying kt = some (.int ik)) : (Instr.checkKey b (n + 1) kt (.int ik k)).run P w = .ok () w := by
  simp [Instr.checkKey, run_underlying hk]
theorem findKey_int (w : World) (k : Int) (es : List MapEntry) {r : Option (Nat × Value)} (hk : P.underlying kt = some (.int ik)) (hf : Instr.findNow (.int ik) (.int ik k) es 0 = some r) : (Instr.findKey kt (.int ik k) es).run P w = .ok r w := by
  simp [Instr.findKey, run_underlying hk, hf]
theorem run_insert_new (ht : P.underlying t = some (.map kt et)) (hk : P.underlying kt = some (.int ik)) (w : World) (es : Array MapEntry) (c g : Nat) (hg : g = w.heap.size) (k : Int) (v : Value)
    (hf : Instr.findNow (.int ik) (.int ik k) es.toList 0 = some none) :
    (Instr.mapUpdate t (.map (some g)) (.int ik k) v).run P (w.alloc (.map es c)) = .ok () (w.alloc (.map (es.push ⟨.int ik k, v, c⟩) (c + 1))) := by
  subst hg
  have h := heap_alloc_new w (.map es c)
  simp only [Instr.mapUpdate, Sem.run_bind, run_underlying ht, Result.andThen_ok, getObj_at h, check_int 9999 false _ k hk, findKey_int _ k _ hk hf, setObj_at]
theorem run_look (ht : P.underlying t = some (.map kt et)) (hk : P.underlying kt = some (.int ik)) {z : Value} {w : World} (hz : (zeroValue et).run P w = .ok z w) {es : Array MapEntry} {c g : Nat} (h : w.heap[g]? = some (.map es c)) (k : Int) {r : Option (Nat × Value)}
    (hf : Instr.findNow (.int ik) (.int ik k) es.toList 0 = some r) :
    (Instr.lookup t (.map (some g)) (.int ik k) true).run P w = .ok (.tuple #[pickV z r, .bool r.isSome]) w := by
  simp only [Instr.lookup, Sem.run_bind, run_underlying ht, Result.andThen_ok, getObj_at h, check_int 9999 _ _ k hk, Sem.run_pure, findKey_int _ k _ hk hf]
  cases r with
  | none => simp [hz, pickV]
  | some p => simp [pickV]
end
end Go.Proofs.Ytgeahfkhfpdlhaa
