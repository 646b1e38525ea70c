/- Put together by this session's program out of: Ky. -/
import Derived.Test.YtanabbjakacgbaaDoorM2
namespace Go.Proofs.YtanabbjakacgbaaDoor.Sp
set_option linter.unusedVariables false
theorem key0 : (sumL [107, 101, 121, 97]).take 2 = [53, 139] := by decide +kernel
theorem key1 : (sumL [107, 101, 121, 98]).take 2 = [16, 55] := by decide +kernel
theorem key2 : (sumL [107, 101, 121, 99]).take 2 = [26, 245] := by decide +kernel
theorem key3 : (sumL [107, 101, 121, 100]).take 2 = [17, 19] := by decide +kernel
theorem key4 : (sumL [107, 101, 121, 101]).take 2 = [83, 115] := by decide +kernel
theorem key5 : (sumL [107, 101, 121, 102]).take 2 = [28, 230] := by decide +kernel
theorem key6 : (sumL [107, 101, 121, 103]).take 2 = [135, 184] := by decide +kernel
theorem key7 : (sumL [107, 101, 121, 104]).take 2 = [141, 104] := by decide +kernel
theorem key8 : (sumL [107, 101, 121, 105]).take 2 = [145, 11] := by decide +kernel
theorem key9 : (sumL [107, 101, 121, 106]).take 2 = [69, 129] := by decide +kernel
theorem key10 : (sumL [107, 101, 121, 107]).take 2 = [96, 97] := by decide +kernel
theorem key11 : (sumL [107, 101, 121, 108]).take 2 = [163, 143] := by decide +kernel
theorem key12 : (sumL [107, 101, 121, 109]).take 2 = [70, 145] := by decide +kernel
theorem key13 : (sumL [107, 101, 121, 110]).take 2 = [147, 229] := by decide +kernel
theorem key14 : (sumL [107, 101, 121, 111]).take 2 = [245, 246] := by decide +kernel
theorem key15 : (sumL [107, 101, 121, 112]).take 2 = [212, 165] := by decide +kernel
theorem key16 : (sumL [107, 101, 121, 113]).take 2 = [60, 101] := by decide +kernel
theorem key17 : (sumL [107, 101, 121, 114]).take 2 = [16, 34] := by decide +kernel
theorem key18 : (sumL [107, 101, 121, 115]).take 2 = [13, 216] := by decide +kernel
theorem key19 : (sumL [107, 101, 121, 116]).take 2 = [92, 80] := by decide +kernel
theorem key20 : (sumL [107, 101, 121, 117]).take 2 = [94, 58] := by decide +kernel
theorem key21 : (sumL [107, 101, 121, 118]).take 2 = [130, 63] := by decide +kernel
theorem key22 : (sumL [107, 101, 121, 119]).take 2 = [87, 183] := by decide +kernel
theorem key23 : (sumL [107, 101, 121, 120]).take 2 = [79, 46] := by decide +kernel
def keyL : List (List Int) := [[53, 139], [16, 55], [26, 245], [17, 19], [83, 115], [28, 230], [135, 184], [141, 104], [145, 11], [69, 129], [96, 97], [163, 143], [70, 145], [147, 229], [245, 246], [212, 165], [60, 101], [16, 34], [13, 216], [92, 80], [94, 58], [130, 63], [87, 183], [79, 46]]
theorem key_all : ∀ i : Fin 24, keyL[i.val]? = some ((sumL [107, 101, 121, 97 + (i.val : Int)]).take 2)
  | ⟨0, _⟩ => (congrArg some key0).symm
  | ⟨1, _⟩ => (congrArg some key1).symm
  | ⟨2, _⟩ => (congrArg some key2).symm
  | ⟨3, _⟩ => (congrArg some key3).symm
  | ⟨4, _⟩ => (congrArg some key4).symm
  | ⟨5, _⟩ => (congrArg some key5).symm
  | ⟨6, _⟩ => (congrArg some key6).symm
  | ⟨7, _⟩ => (congrArg some key7).symm
  | ⟨8, _⟩ => (congrArg some key8).symm
  | ⟨9, _⟩ => (congrArg some key9).symm
  | ⟨10, _⟩ => (congrArg some key10).symm
  | ⟨11, _⟩ => (congrArg some key11).symm
  | ⟨12, _⟩ => (congrArg some key12).symm
  | ⟨13, _⟩ => (congrArg some key13).symm
  | ⟨14, _⟩ => (congrArg some key14).symm
  | ⟨15, _⟩ => (congrArg some key15).symm
  | ⟨16, _⟩ => (congrArg some key16).symm
  | ⟨17, _⟩ => (congrArg some key17).symm
  | ⟨18, _⟩ => (congrArg some key18).symm
  | ⟨19, _⟩ => (congrArg some key19).symm
  | ⟨20, _⟩ => (congrArg some key20).symm
  | ⟨21, _⟩ => (congrArg some key21).symm
  | ⟨22, _⟩ => (congrArg some key22).symm
  | ⟨23, _⟩ => (congrArg some key23).symm
  | ⟨i + 24, h⟩ => absurd h (by omega)
theorem key_ne : ∀ i j : Fin 24, keyL[i.val]? = keyL[j.val]? → i = j := by decide +kernel
end Go.Proofs.YtanabbjakacgbaaDoor.Sp

