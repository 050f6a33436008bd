/- Slices of tracks; the reference's Few and Valid walked (chapter 14). -/
import Derived.Test.YtjnedcncfdpjoaaChecked
import Derived.Test.YtjnedcncfdpjoaaSt
import Derived.Test.YtjnedcncfdpjoaaTocStep
import Derived.Laws.StructEq
import Derived.IntWalk
namespace Go.Proofs.Ytjnedcncfdpjoaa
open Go.RowKit
set_option linter.unusedVariables false

/-- the cells of a track -/
def tcs (x : T.Trk) : List Value := [.int .i64 x.num, .int .i64 x.ses, .int .i64 x.st, .int .i64 x.len, .int .i64 x.nx, .int .i64 x.sta, .int .i64 x.pk]
theorem tcs_length (x : T.Trk) : (tcs x).length = 7 := rfl
/-- a slice of tracks that is only read -/
def RdK (w : World) (v : Value) (l : List T.Trk) : Prop := RdS w 7 v l.length fun i => tcs (T.tr l i)
theorem RdK.keep {w w' : World} {v : Value} {l : List T.Trk} (h : RdK w v l) (hb : Below w.heap.size w w') : RdK w' v l := RdS.keep h hb
theorem RdK.keepW {w w' : World} {v : Value} {l : List T.Trk} (h : RdK w v l) (hb : ∀ k, k < w.heap.size → w'.heap[k]? = w.heap[k]?) : RdK w' v l := RdS.keepW h hb
theorem rd7 {w : World} {b o : Nat} {x : T.Trk} (h : w.rangeAt b o (tcs x)) :
    w.cell? ⟨b, o, none⟩ = some (.int .i64 x.num) ∧ w.cell? ⟨b, o + 1, none⟩ = some (.int .i64 x.ses) ∧ w.cell? ⟨b, o + 2, none⟩ = some (.int .i64 x.st) ∧ w.cell? ⟨b, o + 3, none⟩ = some (.int .i64 x.len) ∧
    w.cell? ⟨b, o + 4, none⟩ = some (.int .i64 x.nx) ∧ w.cell? ⟨b, o + 5, none⟩ = some (.int .i64 x.sta) ∧ w.cell? ⟨b, o + 6, none⟩ = some (.int .i64 x.pk) :=
  ⟨h 0 _ rfl, h 1 _ rfl, h 2 _ rfl, h 3 _ rfl, h 4 _ rfl, h 5 _ rfl, h 6 _ rfl⟩
theorem RdK.nil (w : World) : RdK w (.slice none 0 0) [] := RdS.nil _ _ _

/-- a number that is not too great -/
def sm (a : Int) : Prop := -1099511627776 ≤ a ∧ a ≤ 1099511627776
def smT (x : T.Trk) : Prop := sm x.num ∧ sm x.ses ∧ sm x.st ∧ sm x.len ∧ sm x.nx ∧ sm x.sta ∧ sm x.pk
/-- few tracks, with numbers that are not too great -/
def Few (l : List T.Trk) : Prop := l.length ≤ 110 ∧ ∀ i, i < l.length → smT (T.tr l i)

namespace T
instance (cap cl : Int) (l : List Trk) (i : Nat) : Decidable (okR cap cl l i) := by unfold okR; infer_instance
instance (cap cl : Int) (fin : Bool) (l : List Trk) : Decidable (validR cap cl fin l) := by unfold validR; infer_instance
def validB (cap cl : Int) (fin : Bool) (l : List Trk) : Bool := decide (validR cap cl fin l)
theorem validB_true {cap cl : Int} {fin : Bool} {l : List Trk} : validB cap cl fin l = true ↔ validR cap cl fin l := by unfold validB; exact decide_eq_true_iff
theorem validB_false {cap cl : Int} {fin : Bool} {l : List Trk} : validB cap cl fin l = false ↔ ¬ validR cap cl fin l := by unfold validB; exact decide_eq_false_iff_not
end T

end Go.Proofs.Ytjnedcncfdpjoaa
