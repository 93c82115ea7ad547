/- The closure of control.Pick: it compares a variable's name with the captured one's. -/
import Derived.Test.YtpclhceafigibaaPAllx0
import Derived.Shelf.SlicesQ.IndexFunc
namespace Go.Proofs.Ytpclhceafigibaa.PAll
set_option linter.unusedVariables false
set_option linter.unusedSimpArgs false
open Go.RowKit Go.Proofs.YtpclhceafigibaaW.PrintWords Go.Proofs.YtpclhceafigibaaW.PrintLast Go.Proofs.YtpclhceafigibaaW.PrintMore
def encV (x : S39) : List Value := [.string x.f0, .string x.f1]
set_option maxHeartbeats 1000000 in
theorem clo_pick (n m : ByteArray) (b : Nat) (w : World) (hb : b < w.heap.size) (hc : w.cell? ⟨b, 0, none⟩ = some (.string n)) (hd : w.cell? ⟨b, 1, none⟩ = some (.string m)) :
    PredBelow Try.prog 34 #[.pointer (some ⟨b, 0, none⟩)] (fun x : S39 => .agg (encV x).toArray) (fun x => x.f0.toList == n.toList) w := fun W x hB => by
  have hc' : W.cell? ⟨b, 0, none⟩ = some (.string n) := (hB.cell (p := ⟨b, 0, none⟩) hb).trans hc
  have hd' : W.cell? ⟨b, 1, none⟩ = some (.string m) := (hB.cell (p := ⟨b, 1, none⟩) hb).trans hd
  have hbW : b < W.heap.size := Nat.lt_of_lt_of_le hb hB.size
  have hc2 : ∀ o, (W.alloc o).cell? ⟨b, 0, none⟩ = some (.string n) := fun o => (World.cell?_alloc_lt W o _ hbW).trans hc'
  unfold encV
  show Calls Try.prog 34 #[.agg #[.string x.f0, .string x.f1], .pointer (some ⟨b, 0, none⟩)] W _
  go_enter Try.func34, Try.ntmps34
  go_wp2
  go_ret
  exact ⟨rfl, hB.alloc (Nat.le_trans (Nat.le_refl _) hB.size) _⟩
end Go.Proofs.Ytpclhceafigibaa.PAll
