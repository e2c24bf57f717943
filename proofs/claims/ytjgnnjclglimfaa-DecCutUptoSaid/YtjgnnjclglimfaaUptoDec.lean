/- The four laws on rows, under the bound on the bulk. -/
import Derived.Test.YtjgnnjclglimfaaRowCut
import Derived.Test.YtjgnnjclglimfaaOpenRow
namespace Go.Proofs.Ytjgnnjclglimfaa.DecPure
open Go Go.RowKit Go.Proofs.Ytjgnnjclglimfaa.DecM Go.Proofs.Ytjgnnjclglimfaa.Giv Go.Proofs.Ytjgnnjclglimfaa.Row Go.Proofs.Ytjgnnjclglimfaa.OpenRow

theorem texts_le : ∀ l : List ByteArray, rowBulk l ≤ 1048576 → (textsS l).size ≤ 21 * rowBulk l
  | [], _ => Nat.zero_le _
  | t :: l, h => by
    rw [rowBulk] at h ⊢
    have ih := texts_le l (by omega)
    have hz := numS_size t.size (by omega)
    rw [textsS, ByteArray.size_append]
    unfold textS
    rw [ByteArray.size_append]
    omega
theorem row_le (l : List ByteArray) (h : rowBulk l ≤ 1048576) : (rowS l).size ≤ 21 + 21 * rowBulk l := by
  have h1 := texts_le l h
  have h2 := rowBulk_len l
  have hz := numS_size l.length (by omega)
  rw [rowS_eq, ByteArray.size_append]
  omega
theorem URows (l : List ByteArray) (s : ByteArray) (many most : Int) (hn : (Lit.int .i64 many).wf = true) (hm : (Lit.int .i64 most).wf = true) (h1 : rowBulk l ≤ 1048576) (h2 : s.size ≤ 1048576) : ∃ k, QDec.stanchionlaw01_DecRows.f k l s many most = some true := by
  have b1 := i64_wf hn
  have b2 := i64_wf hm
  have b3 := row_le l h1
  have b4 := rowBulk_len l
  exact Rows l s many most (by omega) (by omega) (by omega) b2.2 b1.2
theorem URowBack (l : List ByteArray) (m : ByteArray) (h1 : rowBulk l ≤ 1048576) (h2 : m.size ≤ 1048576) : ∃ k, QDec.stanchionlaw01_DecRowBack.f k l m = some true := by
  have b3 := row_le l h1
  have b4 := rowBulk_len l
  exact RowBack l m (by omega) (by omega) (by rw [ByteArray.size_append]; omega)
theorem UCut (a : Int) (l : List ByteArray) (cut : Int) (ha : (Lit.int .u64 a).wf = true) (h1 : rowBulk l ≤ 1048576) : ∃ k, QDec.stanchionlaw01_DecCut.f k a l cut = some true := by
  have b3 := row_le l h1
  have b4 := rowBulk_len l
  exact Cut a l cut ha (by omega) (by omega)
theorem UJoin (a b : List ByteArray) (h1 : rowBulk a ≤ 1048576) (h2 : rowBulk b ≤ 1048576) : ∃ k, QDec.stanchionlaw01_DecJoin.f k a b = some true := by
  have b3 := row_le a h1
  have b4 := rowBulk_len a
  have b5 := row_le b h2
  have b6 := rowBulk_len b
  exact Join a b (by omega) (by omega) (by omega) (by omega)
end Go.Proofs.Ytjgnnjclglimfaa.DecPure
