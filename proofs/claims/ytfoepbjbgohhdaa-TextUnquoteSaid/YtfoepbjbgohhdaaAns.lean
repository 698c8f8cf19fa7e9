/- What a program that does nothing does not answer: this one does. -/
import Derived.Test.YtfoepbjbgohhdaaEqU
import Derived.Test.YtfoepbjbgohhdaaEqE
import Derived.Test.YtfoepbjbgohhdaaRt
set_option linter.unusedVariables false
set_option linter.unusedSimpArgs false
namespace Go.Proofs.Ytfoepbjbgohhdaa.X
open Go.RowKit Go.Proofs.YtfoepbjbgohhdaaW.PrintWords Go.Proofs.YtfoepbjbgohhdaaW.PrintMore Go.Proofs.Ytfoepbjbgohhdaa.Q

theorem decR_enc (l : List UInt8) : decR (enc l) = (⟨l.toArray⟩, 0) := by
  have h := dec_of_enc l
  simp [decR, h]
theorem enc_ff : enc [255] = [95, 119] := by rw [enc_one]; rfl
theorem answers_is : Ev (fun k => exequaturlaw01_answers.f k) true := by
  refine evVal (a := (⟨#[255]⟩, 0)) ?_ ?_
  · unfold text_Decode.f
    rw [if_pos (by decide), show (⟨#[95, 119]⟩ : ByteArray).data.toList = enc [255] from enc_ff.symm, decR_enc]
  refine evVal (a := ⟨#[95, 119]⟩) ?_ ?_
  · unfold text_Encode.f
    rw [if_pos (by decide), show (⟨#[255]⟩ : ByteArray).data.toList = [255] from rfl, enc_ff]
  refine evPos (by rw [ByteArray.toList_eq]) (evPos rfl (evPos (by rw [ByteArray.toList_eq]) ?_))
  refine Ev.bind (a := true) (evEq (equal_is ⟨#[97]⟩ ⟨#[97]⟩ (by decide) (by decide)) (by decide)) ?_
  refine evPos rfl ?_
  refine evVal (a := ⟨#[97, 37, 50, 48, 98]⟩) ?_ (evNow (by rw [ByteArray.toList_eq]; decide))
  unfold text_Quote.f
  rw [if_pos (by decide)]
  decide

end Go.Proofs.Ytfoepbjbgohhdaa.X
