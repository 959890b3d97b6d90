/- The shelf is in one text here. No statement of the seat is proved here. -/
import Derived.Test.YtfammoidikdbpaaGreatDoorShelf
