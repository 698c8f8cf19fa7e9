/- A part of the proof of a card: what some functions of the program come to, each under the conditions that its theorem names. -/
import Derived.Lib.Hide
import Derived.Lib.Bytealg
import Derived.Laws.BitsLemmas
section
set_option linter.unusedVariables false
namespace Go.Proofs.YtpoblffgclmmlaaGreatDoor.X

def alph : List UInt8 := [65, 66, 67, 68, 69, 70, 71, 72, 73, 74, 75, 76, 77, 78, 79, 80, 81, 82, 83, 84, 85, 86, 87, 88, 89, 90, 97, 98, 99, 100, 101, 102, 103, 104, 105, 106, 107, 108, 109, 110, 111, 112, 113, 114, 115, 116, 117, 118, 119, 120, 121, 122, 48, 49, 50, 51, 52, 53, 54, 55, 56, 57, 45, 95]
def al (n : Nat) : UInt8 := alph.getD n 0

/-- h bits of value v are held back; what is written from here on. -/
def encS (l : List UInt8) (v h : Nat) : List UInt8 :=
 if 6 ≤ h then al (v / 2 ^ (h - 6) % 64) :: encS l (v % 2 ^ (h - 6)) (h - 6)
 else match l with
 | [] => if h = 0 then [] else [al (v * 2 ^ (6 - h) % 64)]
 | b :: r => encS r (v * 256 + b.toNat) (h + 8)
termination_by (l.length, h)
decreasing_by
 all_goals simp_wf
 all_goals omega

def enc (l : List UInt8) : List UInt8 := encS l 0 0

def hexs : List UInt8 := [48, 49, 50, 51, 52, 53, 54, 55, 56, 57, 65, 66, 67, 68, 69, 70]
def hx (n : Nat) : UInt8 := hexs.getD n 0
def dig (c : UInt8) : Int := Lib.indexByte hexs (if 97 ≤ c ∧ c ≤ 102 then c - 32 else c)
end Go.Proofs.YtpoblffgclmmlaaGreatDoor.X
end
